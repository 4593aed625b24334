/- The statement TypedWrong: for every schema, message, field number and value that are not too great, a message that has the value behind its own slots is of its message only if the number is of a field that is no map's, that the message had not, and the value is of the field's kind; no condition. -/
import Derived.Test.YthikfifoomfjgaaGreatRows
import Derived.WalkKit
import Derived.ProofKit
import Derived.OpenShut
import Derived.ShutString
import Derived.ChangeOld
import Derived.Below
import Derived.Deep.RegionHeld3
import Derived.Deep.DeepCutAuto
import Derived.WalkSpells
import Derived.SizedLaws
import Derived.ChangeSlices
import Derived.Test.YthikfifoomfjgaaGreatPlainP10
import Derived.Test.YthikfifoomfjgaaGreatOwnP10
namespace Go.Proofs.YthikfifoomfjgaaGreat.typedWrong
open Go.ChangeShapes Go.WideShapes Go.ChangeAt Go.RowKit Go.Tr Go.Proofs.YthikfifoomfjgaaGreat Go.Proofs.YthikfifoomfjgaaGreat.PA Go.Proofs.YthikfifoomfjgaaGreatW.PrintWords Go.Proofs.YthikfifoomfjgaaGreatW.PrintLast Go.Proofs.YthikfifoomfjgaaGreatW.PrintMore
set_option linter.unusedVariables false
set_option linter.unusedSimpArgs false

theorem own : ownKnob Tryz.prog.godebug = none := by kernel_rfl
theorem laidOut : laidOutB Tryz.prog = true := by kernel_rfl
theorem runOk_app (S : Sch) (mo : Int → Msg → Bool) (m : Int) (s : Slot) : ∀ (l : List Slot) (nums ones : List Int), runOk S mo m (l ++ [s]) nums ones = true → ∃ f, S.fl m s.no = some f ∧ slotOk mo f s = true ∧ (s.no ∉ nums ∧ ∀ y ∈ l, y.no ≠ s.no)
  | [], nums, ones, h => by
    rw [List.nil_append, runOk] at h
    cases hf : S.fl m s.no with
    | none => rw [hf] at h; simp at h
    | some f =>
      rw [hf] at h
      simp only [Bool.and_eq_true, Bool.not_eq_true', decide_eq_false_iff_not] at h
      exact ⟨f, rfl, h.2.2.1, h.1, by simp⟩
  | y :: l, nums, ones, h => by
    rw [List.cons_append, runOk] at h
    cases hf : S.fl m y.no with
    | none => rw [hf] at h; simp at h
    | some f =>
      rw [hf] at h
      simp only [Bool.and_eq_true, Bool.not_eq_true', decide_eq_false_iff_not] at h
      obtain ⟨g, h1, h2, h3, h4⟩ := runOk_app S mo m s l (y.no :: nums) (f.f6 :: ones) h.2.2.2
      refine ⟨g, h1, h2, fun hq => h3 (List.mem_cons_of_mem _ hq), fun z hz => ?_⟩
      rcases List.mem_cons.1 hz with rfl | hz
      · intro e; exact h3 (by rw [e]; exact List.mem_cons_self)
      · exact h4 z hz
/-- A message with one more slot. -/
def with1 (x : Msg) (no : Int) (v : Val) : Msg := .mk (x.f ++ [⟨no, [], [v]⟩])
theorem law_wrong {S : Sch} (hF : S.Ok) {m no : Int} {n : Nat} {x : Msg} {v : Val} (h : mayOk S (n + 1) m (with1 x no v) = true) : ∃ f, S.fl m no = some f ∧ f.f5 = -1 ∧ vOk S n f.f2 f.f3 v = true ∧ hasSlot x no = false := by
  unfold mayOk at h
  simp only [Bool.and_eq_true, decide_eq_true_eq] at h
  obtain ⟨hd, hm, hr⟩ := h
  rw [msgOk] at hr
  simp only [Bool.and_eq_true] at hr
  obtain ⟨f, h1, h2, -, h4⟩ := runOk_app S (msgOk S n) m ⟨no, [], [v]⟩ x.f [] [] hr.1
  have hk : f.f5 = -1 := by
    by_cases hk : f.f5 = -1
    · exact hk
    · unfold slotOk at h2
      rw [if_neg hk] at h2
      simp at h2
  refine ⟨f, h1, hk, ?_, ?_⟩
  · unfold slotOk at h2
    rw [if_pos hk] at h2
    simp at h2
    unfold vOk
    rw [hm, h2]
    simp only [Bool.and_true]
    unfold lowV
    rw [Bool.not_eq_true', List.any_eq_false]
    intro y hy
    have hs : y ∈ (with1 x no v).subs := by
      refine List.mem_flatMap.2 ⟨v, List.mem_flatMap.2 ⟨⟨no, [], [v]⟩, ?_, by simp⟩, hy⟩
      simp [with1, Msg.f]
    have := foldl_max_mem ((with1 x no v).subs.map Msg.deep) y.deep (List.mem_map_of_mem hs)
    rw [Msg.deep_eq] at hd
    simp only [Bool.not_eq_true, Bool.not_eq_false', decide_eq_true_eq]
    omega
  · unfold hasSlot
    rw [List.any_eq_false]
    intro y hy
    have := h4 y hy
    unfold isNo
    simpa using this
/-- Elements made under a bound, or one that is known. -/
def Two1 (L n K : Nat) (cs0 : List Value) (s0 : Slot) (b : Nat) (w : World) (cs : List Value) (s : Slot) : Prop := (RSlot L b w (RMsg L b w n) cs s ∧ w.heap.size ≤ K) ∨ (cs = cs0 ∧ s = s0)
theorem grown_two {L n base : Nat} {wr : World} {v : Value} {xs : List Slot} (h : Grown 35 3 base wr (fun b w cs s => RSlot L b w (RMsg L b w n) cs s) v xs) (cs0 : List Value) (s0 : Slot) : Grown 35 3 base wr (Two1 L n wr.heap.size cs0 s0) v xs := by
  obtain ⟨ys, h1, h2⟩ := h
  refine ⟨ys, h1, h2.imp fun cs x _ hx => ?_⟩
  obtain ⟨b, wi, e1, e2, e3, e4, e5⟩ := hx
  exact ⟨b, wi, e1, .inl ⟨e2, e4⟩, e3, e4, e5⟩
/-- What the longer row reads as, when its box has been written. -/
theorem two_row {L n base K : Nat} {w9 : World} {v u u0 : Value} {xs : List Slot} {cs0 : List Value} {s0 : Slot} (h : Grown 35 3 base w9 (Two1 L n K cs0 s0) v xs) (hk : w9.heap[K]? = some (.cells #[u0] 28 (0, 0)))
    (hs : RSlot L 0 (w9.setCell ⟨K, 0, none⟩ u) (RMsg L 0 (w9.setCell ⟨K, 0, none⟩ u) n) cs0 s0) (hl : xs.length ≤ L) : RMsg L 0 (w9.setCell ⟨K, 0, none⟩ u) (n + 1) [v] (.mk xs) := by
  obtain ⟨ys, h1, h2⟩ := h
  have hne : some K ≠ v.ownBlock := own_type h1 hk (by decide)
  refine ⟨v, rfl, Has.row (e := 35) (B := base) (w := w9.setCell ⟨K, 0, none⟩ u) (R := fun cs s => RSlot L 0 (w9.setCell ⟨K, 0, none⟩ u) (RMsg L 0 (w9.setCell ⟨K, 0, none⟩ u) n) cs s) ⟨ys, h1.kept (grown_set w9 ⟨K, 0, none⟩ u) (.inr fun e => hne e.symm), h2.imp fun cs x _ hx => ?_⟩ hl (Nat.zero_le _) (Keeps.refl _ _) fun _ _ _ h => h⟩
  obtain ⟨b, wi, -, e2, e3, -, -⟩ := hx
  rcases e2 with ⟨e2, e4⟩ | ⟨rfl, rfl⟩
  · refine rslot_keepB L n b 0 wi _ cs x (Nat.zero_le _) (fun p v hp hv => ?_) e2
    have hlt : p.block < wi.heap.size := block_lt_of_cell hv
    rw [World.cell?_setCell_other _ _ _ _ (fun e => by rw [← e] at hlt; simp at hlt; omega)]
    exact e3 p v hp hv
  · exact hs
theorem few_wrong {L n : Nat} {w w1 : World} {v1 d0 d1 d2 : Value} {m : Msg} {x : Val} (hb : Below w.heap.size w w1) (h1 : RMsg L 0 w n [v1] m) (hx : RVal L 0 w (RMsg L 0 w n) [d0, d1, d2] x) (hL : 3 ≤ L) :
    ∀ W : World, W = ((w1.alloc (.cells #[v1] 28)).alloc (.cells #[d0, d1, d2, .int .i64 0, .string ⟨#[]⟩, .slice (some ⟨w1.heap.size, 0, none⟩) 1 1] 39)).alloc (.cells #[.int .i64 0, .slice none 0 0, .slice (some ⟨w1.heap.size + 1, 0, none⟩) 2 2] 35) →
    Below w1.heap.size w1 W ∧ RMsg L 0 W (n + 1) [.slice (some ⟨w1.heap.size + 1 + 1, 0, none⟩) 1 1] (.mk [⟨0, [], [x, ⟨0, ⟨#[]⟩, [m]⟩]⟩]) := by
  rintro W rfl
  obtain ⟨o0, ho0⟩ : ∃ o, o = (Obj.cells #[v1] 28) := ⟨_, rfl⟩
  obtain ⟨o1, ho1⟩ : ∃ o, o = (Obj.cells #[d0, d1, d2, .int .i64 0, .string ⟨#[]⟩, .slice (some ⟨w1.heap.size, 0, none⟩) 1 1] 39) := ⟨_, rfl⟩
  obtain ⟨o2, ho2⟩ : ∃ o, o = (Obj.cells #[.int .i64 0, .slice none 0 0, .slice (some ⟨w1.heap.size + 1, 0, none⟩) 2 2] 35) := ⟨_, rfl⟩
  rw [← ho0, ← ho1, ← ho2]
  obtain ⟨g0, g1, g2, -⟩ := four10 w1 o0 o1 o2 o2
  have hA1 : Below w1.heap.size w1 (((w1.alloc o0).alloc o1).alloc o2) := ((al1 _ _).nx (al1 _ _)).nx (al1 _ _)
  have k := al1 (((w1.alloc o0).alloc o1).alloc o2) o2
  have j0 := (k.block w1.heap.size (by simp; omega)).symm.trans g0
  have j1 := (k.block (w1.heap.size + 1) (by simp)).symm.trans g1
  have j2 := (k.block (w1.heap.size + 1 + 1) (by simp)).symm.trans g2
  clear g0 g1 g2 k
  have hA : Below w.heap.size w (((w1.alloc o0).alloc o1).alloc o2) := hb.nx hA1
  refine ⟨hA1, ?_⟩
  generalize (((w1.alloc o0).alloc o1).alloc o2) = W at *
  subst ho0 ho1 ho2
  refine msg_one (t := 35) (by omega) (Nat.zero_le _) j2 ⟨_, _, rfl, by simp, by simp, rowNil _ _ _ _ _, ?_⟩
  refine ⟨_, 2, rfl, by show 2 ≤ L; omega, Nat.le_refl _, by unfold maxLen; omega, by simp, fun _ => ⟨_, 0, rfl, Nat.zero_le _, fun i hi => ?_⟩⟩
  have hi2 : i < 2 := hi
  match i, hi2 with
  | 0, _ => exact ⟨[d0, d1, d2], rfl, fun j v hv => by
      have hj : j < 3 := by have := (List.getElem?_eq_some_iff.1 hv).1; simpa using this
      rw [cell_of_row _ _ (0 + 0 * 3 + j) _ _ _ j1]
      match j, hj with
      | 0, _ => simpa using hv
      | 1, _ => simpa using hv
      | 2, _ => simpa using hv, hx.below hA⟩
  | 1, _ => exact ⟨[.int .i64 0, .string ⟨#[]⟩, .slice (some ⟨w1.heap.size, 0, none⟩) 1 1], rfl, fun j v hv => by
      have hj : j < 3 := by have := (List.getElem?_eq_some_iff.1 hv).1; simpa using this
      rw [cell_of_row _ _ (0 + 1 * 3 + j) _ _ _ j1]
      match j, hj with
      | 0, _ => simpa using hv
      | 1, _ => simpa using hv
      | 2, _ => simpa using hv, ⟨_, rfl, by simp, by simp, Nat.zero_le _, row_one (t := 28) (by omega) (Nat.zero_le _) j0 rfl (RMsg.below hA n h1)⟩⟩
theorem blk2w (w : World) (a b : Obj) : ((w.alloc a).alloc b).heap[w.heap.size + 1]? = some b := by
  have h1 := heap_alloc_new (w.alloc a) b
  have h2 : (w.alloc a).heap.size = w.heap.size + 1 := by simp
  rw [h2] at h1; exact h1
theorem keep9w {w w' : World} {p0 p1 p2 p3 p4 p5 p6 p7 p8 : Addr} {v0 v1 v2 v3 v4 v5 v6 v7 v8 : Value} {K : Nat} (b : Below K w w') (hK : K = w.heap.size) (h : (w.cell? p0 = some v0 ∧ w.cell? p1 = some v1 ∧ w.cell? p2 = some v2 ∧ w.cell? p3 = some v3 ∧ w.cell? p4 = some v4 ∧ w.cell? p5 = some v5) ∧ w.cell? p6 = some v6 ∧ w.cell? p7 = some v7 ∧ w.cell? p8 = some v8) :
    (w'.cell? p0 = some v0 ∧ w'.cell? p1 = some v1 ∧ w'.cell? p2 = some v2 ∧ w'.cell? p3 = some v3 ∧ w'.cell? p4 = some v4 ∧ w'.cell? p5 = some v5) ∧ w'.cell? p6 = some v6 ∧ w'.cell? p7 = some v7 ∧ w'.cell? p8 = some v8 :=
  ⟨keep6 b hK h.1, keep3w b hK h.2⟩
theorem law_bool {S : Sch} (hF : S.Ok) {m no : Int} {n : Nat} {x : Msg} {v : Val} {r : Int × ByteArray × Int × Int × Bool × Int × Int × Bool} (hr : r = fieldIs (S.fl m no)) : mayOk S (n + 1) m (with1 x no v) = true → r.2.2.2.2.2.2.2 = true ∧ hasSlot x no = false ∧ r.2.2.2.2.2.1 = -1 ∧ vOk S n r.2.2.1 r.2.2.2.1 v = true := by
  intro h
  obtain ⟨f, h1, h2, h3, h4⟩ := law_wrong hF h
  rw [hr, h1]
  exact ⟨rfl, h4, h2, h3⟩
/-! THE WALK -/
set_option maxHeartbeats 8000000 in
set_option maxRecDepth 100000 in
theorem walk (n : Nat) (w : World) (A0a : Option Addr) (c0a : Nat) (M0 : List S58) (A0b : Option Addr) (c0b : Nat) (E0 : List S79) (h0 : OkSchema w A0a c0a M0 A0b c0b E0) (a1 : Int) (w1 : -9223372036854775808 ≤ a1 ∧ a1 ≤ 9223372036854775807) (cs2 : List Value) (x2 : Msg) (h2 : RMsg Go.Proofs.YthikfifoomfjgaaGreat.Great 0 w n cs2 x2) (a3 : Int) (w3 : -9223372036854775808 ≤ a3 ∧ a3 ≤ 9223372036854775807) (cs4 : List Value) (x4 : Val) (h4 : RVal Go.Proofs.YthikfifoomfjgaaGreat.Great 0 w (RMsg Go.Proofs.YthikfifoomfjgaaGreat.Great 0 w n) cs4 x4) :
    Calls Tryz.prog 6 #[.agg #[.slice A0a M0.length c0a, .slice A0b E0.length c0b], .int .i64 a1, .agg cs2.toArray, .int .i64 a3, .agg cs4.toArray] w fun e w' => e = .returned (.bool true) ∧ Below w.heap.size w w' := by
  have hm1 := w1
  have hm2 := w3
  clear w1 w3
  obtain ⟨HAT, HOK, hfs⟩ := Sch.of_ok h0
  obtain ⟨S, hS⟩ : ∃ S : Sch, S = ⟨M0, E0, A0a, A0b, c0a, c0b⟩ := ⟨_, rfl⟩
  have hcells : (#[.slice A0a M0.length c0a, .slice A0b E0.length c0b] : Array Value) = #[.slice S.A0 S.M.length S.c0, .slice S.A1 S.E.length S.c1] := by rw [hS]
  rw [hcells]
  have HFS : Hid (FewP S.M S.E → okSchema S.M S.E = true) := Lib.hid (by rw [hS]; exact hfs)
  rw [← hS] at HAT HOK
  have HA := Lib.hid fun w' => awake10 w'
  have HSA := Lib.hid HAT
  have HFO := Lib.hid HOK
  have H2 := Lib.hid (RMsg.keep (Nat.le_refl 0) (Keeps.refl 0 w) n (n + 1) (by omega) h2)
  have H2' := Lib.hid h2
  have H4 := Lib.hid h4
  have H4' := Lib.hid h4
  obtain ⟨v2, rfl, o2⟩ := rmsg_one Great 0 n w _ _ h2
  obtain ⟨a2, cap2, rfl⟩ : ∃ a cap, v2 = .slice a x2.f.length cap := by
    obtain ⟨c, e, r⟩ := H2.out
    cases e
    obtain ⟨a, cap, rfl, -⟩ := r
    exact ⟨a, cap, rfl⟩
  obtain ⟨c, rfl, hx1, hx2, hx3, r1⟩ := h4
  obtain ⟨p4, pc4, rfl, -⟩ := r1
  clear HAT HOK hfs h0 hcells hS h2 o2
  have hlen63 : (S.M.length : Int) ≤ 9223372036854775807 := by have := Kd.C_max HSA.out.1; omega
  go_enter Tryz.func6, Tryz.ntmps6
  go_wp2_with fail
  refine (HA.out _).mono ?_; rintro e w1 ⟨rfl, b1⟩
  have kk : w1.cell? ⟨w.heap.size, 0, none⟩ = some (.slice S.A0 S.M.length S.c0) ∧ w1.cell? ⟨w.heap.size, 1, none⟩ = some (.slice S.A1 S.E.length S.c1) ∧ w1.cell? ⟨w.heap.size + 1, 0, none⟩ = some (.slice a2 x2.f.length cap2) ∧ w1.cell? ⟨w.heap.size + 1 + 1, 0, none⟩ = some (.int .i64 x4.n) ∧ w1.cell? ⟨w.heap.size + 1 + 1, 1, none⟩ = some (.string x4.s) ∧ w1.cell? ⟨w.heap.size + 1 + 1, 2, none⟩ = some (.slice p4 x4.m.length pc4) :=
    keep6 b1 rfl (by refine ⟨?_, ?_, ?_, ?_, ?_, ?_⟩ <;> simp [go_sem])
  have B1 := Lib.hid (((al2 _ _ _).nx (al1 _ _)).nx b1)
  clear b1
  have KK := Lib.hid kk
  obtain ⟨k0, k1, k2, k3, k4, k5⟩ := kk
  have l0 := block_lt_of_cell k0
  have l2 := block_lt_of_cell k2
  have l3 := block_lt_of_cell k3
  go_upto_region 3 with fail
  have hall : ∀ W : World, W = ((w1.alloc (.cells #[.slice a2 x2.f.length cap2] 28)).alloc (.cells #[.int .i64 x4.n, .string x4.s, .slice p4 x4.m.length pc4, .int .i64 0, .string ⟨#[]⟩, .slice (some ⟨w1.heap.size, 0, none⟩) 1 1] 39)).alloc (.cells #[.int .i64 0, .slice none 0 0, .slice (some ⟨w1.heap.size + 1, 0, none⟩) 2 2] 35) → Below w1.heap.size w1 W ∧ RMsg Great 0 W (n + 1) [.slice (some ⟨w1.heap.size + 1 + 1, 0, none⟩) 1 1] (.mk [⟨0, [], [x4, ⟨0, ⟨#[]⟩, [x2]⟩]⟩]) ∧ W.cell? ⟨w.heap.size, 0, none⟩ = some (.slice S.A0 S.M.length S.c0) ∧ W.cell? ⟨w.heap.size, 1, none⟩ = some (.slice S.A1 S.E.length S.c1) ∧ W.cell? ⟨w.heap.size + 1, 0, none⟩ = some (.slice a2 x2.f.length cap2) ∧ W.cell? ⟨w.heap.size + 1 + 1, 0, none⟩ = some (.int .i64 x4.n) ∧ W.cell? ⟨w.heap.size + 1 + 1, 1, none⟩ = some (.string x4.s) ∧ W.cell? ⟨w.heap.size + 1 + 1, 2, none⟩ = some (.slice p4 x4.m.length pc4) := by
    intro W hW
    have h := few_wrong B1.out H2'.out H4.out (by decide) W hW
    exact ⟨h.1, h.2, keep6 h.1 rfl KK.out⟩
  have HALL := Lib.hid (hall _ rfl)
  clear hall k0 k1 k2 k3 k4 k5 l0 l2 l3 KK H2'
  generalize ((w1.alloc (.cells #[.slice a2 x2.f.length cap2] 28)).alloc (.cells #[.int .i64 x4.n, .string x4.s, .slice p4 x4.m.length pc4, .int .i64 0, .string ⟨#[]⟩, .slice (some ⟨w1.heap.size, 0, none⟩) 1 1] 39)).alloc (.cells #[.int .i64 0, .slice none 0 0, .slice (some ⟨w1.heap.size + 1, 0, none⟩) 2 2] 35) = W3 at *
  obtain ⟨A3, hX, hc⟩ := HALL.out
  have HX := Lib.hid hX
  have B3 := Lib.hid (B1.out.nx A3)
  have HC3 := Lib.hid hc
  clear A3 hX hc HALL
  have hfew := few10 S Great (n + 1) (by decide) W3 (HSA.out.below B3.out) [_] _ HX.out
  have HFEW := Lib.hid hfew
  have HBY := Lib.hid fun w' (hb : Below W3.heap.size W3 w') => S.by_ref w' (HSA.out.below (B3.out.nx hb)) a1 a3
  clear hfew
  unfold Sch.cells at HFEW HBY
  go_wp2_with fail
  refine HFEW.out.mono ?_; rintro e w4 ⟨⟨b, rfl, hb⟩, b4⟩
  have HC4 := Lib.hid (keep6 b4 rfl HC3.out)
  have B4 := Lib.hid b4
  clear b4 HFEW HC3
  obtain ⟨k0, k1, k2, k3, k4, k5⟩ := HC4.out
  have l0 := block_lt_of_cell k0
  have l2 := block_lt_of_cell k2
  have l3 := block_lt_of_cell k3
  cases b with
  | false =>
    go_wp2_with fail
    exact ⟨rfl, _, results_tmp (t := 10) rfl _ _ _, rfl, B3.out.nx B4.out⟩
  | true =>
    obtain ⟨hfp, hlt⟩ := hb (by first | rfl | trivial)
    have hok := HFS.out hfp
    have hv : x4 ∈ (Msg.mk [⟨0, [], [x4, ⟨0, ⟨#[]⟩, [x2]⟩]⟩]).vals := by simp [Msg.vals, Msg.f]
    have hsub : x2 ∈ (Msg.mk [⟨0, [], [x4, ⟨0, ⟨#[]⟩, [x2]⟩]⟩]).subs := by simp [Msg.subs, Msg.vals, Msg.f]
    have hw2 : x2.weight ≤ 3000 := by have h1 := weight_sub hsub; have h2 := hlt.1; omega
    have hl2 : x2.f.length ≤ 3000 := by have h1 := weight_f x2; omega
    have HX2 := Lib.hid (H2.out.shrink (L' := 10000) (n + 1) (by omega))
    have HXV := Lib.hid (H4.out.shrinkIn (L' := 10000) hv (by have := hlt.1; omega))
    have HM := Lib.hid fun w' (hb : Below W3.heap.size W3 w') => typed_may S HFO.out hok 10000 (n + 1) (by omega) w' (HSA.out.below (B3.out.nx hb)) a1 _ _ (RMsg.below (B3.out.nx hb) (n + 1) HX2.out)
    have HW := Lib.hid fun w' cs (hb : Below W3.heap.size W3 w') h => typed_may S HFO.out hok 10000 (n + 1) (by omega) w' (HSA.out.below (B3.out.nx hb)) a1 cs (with1 x2 a3 x4) h
    have HV := Lib.hid fun w' kind ref (hb : Below W3.heap.size W3 w') => typed_val S HFO.out hok 10000 n (by omega) w' (HSA.out.below (B3.out.nx hb)) kind ref _ x4 (HXV.out.below (B3.out.nx hb))
    unfold Sch.cells at HM HV HW
    clear hb hfp hlt hok hv hsub hw2 H2 H4 H4' HX HFS
    by_cases d1 : a1 < 0
    · have dk : decide (a1 < 0) = true := by simpa using d1
      clear d1
      go_wp2_with fail
      exact ⟨rfl, _, results_tmp (t := 10) rfl _ _ _, rfl, B3.out.nx B4.out⟩
    · have dk1 : decide (a1 < 0) = false := by simpa using d1
      by_cases d2 : (S.M.length : Int) ≤ a1
      · have dk2 : decide ((S.M.length : Int) ≤ a1) = true := by simpa using d2
        clear d1 d2
        go_wp2_with fail
        exact ⟨rfl, _, results_tmp (t := 10) rfl _ _ _, rfl, B3.out.nx B4.out⟩
      · have dk2 : decide ((S.M.length : Int) ≤ a1) = false := by simpa using d2
        clear d1 d2
        generalize mayOk S (n + 1) a1 x2 = q at HM
        cases q with
        | false =>
          go_wp2_with (go_at_call 16; (with_reducible refine (HM.out _ ?_).mono ?_); (exact B4.out); rintro e w5 ⟨rfl, b5⟩)
          exact ⟨rfl, _, results_tmp (t := 10) rfl _ _ _, rfl, B3.out.nx (B4.out.nx b5)⟩
        | true =>
          go_upto_region 5 with (go_at_call 16; (with_reducible refine (HM.out _ ?_).mono ?_); (exact B4.out); rintro e w5 ⟨rfl, b5⟩; (have B5 := Lib.hid (B4.out.nx b5)); (have HC5 := Lib.hid (keep6 b5 rfl HC4.out)); clear b5)
          clear k0 k1 k2 k3 k4 k5 l0 l2 l3 HM HC4 B4
          obtain ⟨k0, k1, k2, k3, k4, k5⟩ := HC5.out
          have l0 := block_lt_of_cell k0
          have l2 := block_lt_of_cell k2
          have l3 := block_lt_of_cell k3
          go_wp2_with fail
          refine (HBY.out _ B5.out).mono ?_; rintro e w6 ⟨⟨r, hr, rfl⟩, b6⟩
          have HLB := Lib.hid (law_bool (n := n) (x := x2) (v := x4) HFO.out hr)
          clear hr HBY HFO HSA
          obtain ⟨r0, r1, r2, r3, r4, r5, r6, ris⟩ := r
          dsimp only at HLB ⊢
          have HC6 := Lib.hid (keep6 b6 rfl HC5.out)
          have B6 := Lib.hid (B5.out.nx b6)
          clear b6 k0 k1 k2 k3 k4 k5 l0 l2 l3 HC5 B5
          obtain ⟨k0, k1, k2, k3, k4, k5⟩ := HC6.out
          have l0 := block_lt_of_cell k0
          have l2 := block_lt_of_cell k2
          have l3 := block_lt_of_cell k3
          go_upto_region 6 with (with_reducible refine wpList_store_new rfl (.tmp 13) (.tmp 59) rfl rfl rfl (by kernel_rfl) (by simp) (by simp [Value.oneCell']) ?_)
          have hs0 : ∀ W : World, W = w6.alloc (.cells #[.int .i64 r0, .string r1, .int .i64 r2, .int .i64 r3, .bool r4, .int .i64 r5, .int .i64 r6] 47) → Below w6.heap.size w6 W ∧ ((W.cell? ⟨w.heap.size, 0, none⟩ = some (.slice S.A0 S.M.length S.c0) ∧ W.cell? ⟨w.heap.size, 1, none⟩ = some (.slice S.A1 S.E.length S.c1) ∧ W.cell? ⟨w.heap.size + 1, 0, none⟩ = some (.slice a2 x2.f.length cap2) ∧ W.cell? ⟨w.heap.size + 1 + 1, 0, none⟩ = some (.int .i64 x4.n) ∧ W.cell? ⟨w.heap.size + 1 + 1, 1, none⟩ = some (.string x4.s) ∧ W.cell? ⟨w.heap.size + 1 + 1, 2, none⟩ = some (.slice p4 x4.m.length pc4)) ∧ W.cell? ⟨w6.heap.size, 2, none⟩ = some (.int .i64 r2) ∧ W.cell? ⟨w6.heap.size, 3, none⟩ = some (.int .i64 r3) ∧ W.cell? ⟨w6.heap.size, 5, none⟩ = some (.int .i64 r5)) := by
            rintro W rfl
            exact ⟨al1 _ _, keep6 (al1 _ _) rfl HC6.out, by simp [go_sem], by simp [go_sem], by simp [go_sem]⟩
          have HS0 := Lib.hid (hs0 _ rfl)
          clear hs0
          generalize w6.alloc (.cells #[.int .i64 r0, .string r1, .int .i64 r2, .int .i64 r3, .bool r4, .int .i64 r5, .int .i64 r6] 47) = y6 at *
          have BY := Lib.hid (B6.out.nx HS0.out.1)
          have HCY := Lib.hid HS0.out.2
          clear HS0 k0 k1 k2 k3 k4 k5 l0 l2 l3 HC6 B6
          obtain ⟨⟨k0, k1, k2, k3, k4, k5⟩, k6, k7, k8⟩ := HCY.out
          have l0 := block_lt_of_cell k0
          have l2 := block_lt_of_cell k2
          have l3 := block_lt_of_cell k3
          have l6 := block_lt_of_cell k6
          have HOW := Lib.hid (ref_ownG 10000 n (by omega) y6 [_] x2 (RMsg.below (B3.out.nx BY.out) (n + 1) HX2.out))
          go_wp2_with fail
          refine HOW.out.mono ?_; rintro e w7 ⟨v7, rfl, hg7, hr7, b7, hY7⟩
          obtain ⟨av, cv, rfl⟩ : ∃ a cap, v7 = .slice a x2.f.length cap := by
            obtain ⟨c, e, r⟩ := hr7
            cases e
            obtain ⟨a, cap, rfl, -⟩ := r
            exact ⟨a, cap, rfl⟩
          have HG7 := Lib.hid hg7
          have B7 := Lib.hid b7
          clear hr7 hg7 b7 HOW
          go_upto_region 7 with fail
          have hs1 : ∀ W : World, W = w7.alloc (.cells #[.slice av x2.f.length cv] 28) → Below w7.heap.size w7 W ∧ W.heap[w7.heap.size]? = some (.cells #[.slice av x2.f.length cv] 28 (0, 0)) := by
            rintro W rfl
            exact ⟨al1 _ _, heap_alloc_new _ _⟩
          have HS1 := Lib.hid (hs1 _ rfl)
          clear hs1
          generalize w7.alloc (.cells #[.slice av x2.f.length cv] 28) = wB at *
          have HBB := Lib.hid (B7.out.nx HS1.out.1)
          have HCB := Lib.hid (keep9w HBB.out rfl HCY.out)
          have hg2 := (grown_two HG7.out [.int .i64 a3, .slice none 0 0, .slice (some ⟨wB.heap.size, 0, none⟩) 1 1] ⟨a3, [], [x4]⟩).below (HS1.out.1.nx (al1 _ (.cells #[.int .i64 x4.n, .string x4.s, .slice p4 x4.m.length pc4] 39)))
          have HG2 := Lib.hid hg2
          obtain ⟨ys, hown, hpart⟩ := hg2.below (al1 _ (.cells #[.int .i64 a3, .slice none 0 0, .slice (some ⟨wB.heap.size, 0, none⟩) 1 1] 35))
          have HO := Lib.hid hown
          have HP := Lib.hid hpart
          have hsY := HBB.out.size
          have hs6 := B7.out.size
          have hs67 := HS1.out.1.size
          have hK7 : w7.heap.size < wB.heap.size := lt_blk HS1.out.2
          clear hg2 hown hpart k0 k1 k2 k3 k4 k5 k6 k7 k8 l0 l2 l3 l6 HG7
          obtain ⟨⟨k0, k1, k2, k3, k4, k5⟩, k6, k7, k8⟩ := HCB.out
          have l0 := block_lt_of_cell k0
          have l2 := block_lt_of_cell k2
          have l3 := block_lt_of_cell k3
          have l6 := block_lt_of_cell k6
          have k9 : wB.cell? ⟨w7.heap.size, 0, none⟩ = some (.slice av x2.f.length cv) := cell_of_row wB w7.heap.size 0 _ _ (0, 0) HS1.out.2
          obtain ⟨i3, hi3, hz3, hs3, hb3⟩ := info_parts (P := Tryz.prog) (e := 35) (z := .agg #[.int .i64 0, .slice none 0 0, .slice none 0 0]) (size := 3) (bytes := 56) (by kernel_rfl)
          have z3 : (Value.agg #[.int .i64 0, .slice none 0 0, .slice none 0 0]).cells.size = 3 := rfl
          go_upto_region 8 with (first
            | (at_builtin; (refine wpList_append_lies _ rfl _ _ 26 rfl (y6.heap.size + 3) 35 i3 _ 3 56 Tryz.underlying26 hi3 hz3 hs3 hb3 z3 (by omega) (.slice av x2.f.length cv) x2.f.length ys rfl HO.out ⟨wB.heap.size + 1, 0, none⟩ 1 1 [.int .i64 a3, .slice none 0 0, .slice (some ⟨wB.heap.size, 0, none⟩) 1 1] rfl rfl (block_src (blk2w wB _ _)) (by simp [Value.oneCell']) (by omega) (by unfold maxLen; omega) (by omega) (by simp; omega) _ rfl ?_); rintro g cap w9 ho9 hg9 hl9 hlt9; (have K9 := grown_step (R := Two1 10000 n w7.heap.size [.int .i64 a3, .slice none 0 0, .slice (some ⟨wB.heap.size, 0, none⟩) 1 1] ⟨a3, [], [x4]⟩) HG2.out (Below.refl _ _) (by simp; omega) (.inr ⟨rfl, rfl⟩) rfl HO.out HP.out ho9 hg9 hl9); (obtain ⟨gn, hne', b9⟩ := K9); (have GN := Lib.hid gn); (have X9 := Lib.hid (hne' _ _ 28 (by decide) (((al1 wB _).block _ hK7).trans HS1.out.2))); (have V9 := Lib.hid (hne' _ _ 39 (by decide) (heap_alloc_new wB _))); (have B9 := Lib.hid (b9 y6 (by omega) (HBB.out.nx (al1 _ _)))); clear gn hne' b9 ho9 hg9 hl9; (have HC9 := Lib.hid (keep9w B9.out rfl HCY.out)); clear k0 k1 k2 k3 k4 k5 k6 k7 k8 k9 l0 l2 l3 l6; (obtain ⟨⟨k0, k1, k2, k3, k4, k5⟩, k6, k7, k8⟩ := HC9.out); (have l0 := block_lt_of_cell k0); (have l2 := block_lt_of_cell k2); (have l3 := block_lt_of_cell k3); (have l6 := block_lt_of_cell k6); (have k9 : w9.cell? ⟨w7.heap.size, 0, none⟩ = some (.slice av x2.f.length cv) := cell_of_row w9 w7.heap.size 0 _ _ (0, 0) X9.out); (have f9 : w9.frozen? ⟨w7.heap.size, 0, none⟩ = false := (by simp [World.frozen?, X9.out])); (have l9 := lt_blk X9.out)))
          clear HO HP HG2 HCB HBB k9
          have hr9 : ∀ W : World, W = w9.setCell ⟨w7.heap.size, 0, none⟩ (.slice (some ⟨g, 0, none⟩) (x2.f.length + 1) cap) → Below y6.heap.size y6 W ∧ RMsg 10000 0 W (n + 1) [.slice (some ⟨g, 0, none⟩) (x2.f.length + 1) cap] (with1 x2 a3 x4) ∧ W.cell? ⟨w7.heap.size, 0, none⟩ = some (.slice (some ⟨g, 0, none⟩) (x2.f.length + 1) cap) := by
            rintro W rfl
            have hBW := B9.out.setCell (p := ⟨w7.heap.size, 0, none⟩) (by simp; omega) (.slice (some ⟨g, 0, none⟩) (x2.f.length + 1) cap)
            refine ⟨hBW, two_row GN.out X9.out ⟨_, _, rfl, hm2.1, hm2.2, rowNil _ _ _ _ _, val_row (by decide) ((heap_setCell_other w9 _ _ _ (by simp; omega)).trans V9.out) (HXV.out.below (B3.out.nx (BY.out.nx hBW)))⟩ (by simp; omega), World.cell?_setCell_same _ _ _ (cell_of_row w9 w7.heap.size 0 _ _ (0, 0) X9.out)⟩
          have HR9 := Lib.hid (hr9 _ rfl)
          clear hr9 f9 l9 k0 k1 k2 k3 k4 k5 k6 k7 k8 l0 l2 l3 l6
          generalize w9.setCell ⟨w7.heap.size, 0, none⟩ (.slice (some ⟨g, 0, none⟩) (x2.f.length + 1) cap) = wC at *
          obtain ⟨bC, rC, k9⟩ := HR9.out
          have BC := Lib.hid bC
          have RC := Lib.hid rC
          have K9 := Lib.hid k9
          have HCC := Lib.hid (keep9w bC rfl HCY.out)
          clear bC rC HR9 HC9 B9 V9 X9 GN HS1
          obtain ⟨⟨k0, k1, k2, k3, k4, k5⟩, k6, k7, k8⟩ := HCC.out
          have l0 := block_lt_of_cell k0
          have l2 := block_lt_of_cell k2
          have l3 := block_lt_of_cell k3
          have l6 := block_lt_of_cell k6
          have l9 := block_lt_of_cell k9
          have HGE := Lib.hid (value_get 10000 n (by omega) a3 hm2.1 hm2.2 wC [_] x2 (RMsg.below (B3.out.nx (BY.out.nx BC.out)) (n + 1) HX2.out))
          have HRE := Lib.hid hK7
          clear hs6 hs67 hsY hK7 hY7 hlt9 hi3 hz3 hs3 hb3 z3
          go_wp2_with fail
          refine HGE.out.mono ?_; rintro e wD ⟨ds, rfl, rg, bD⟩
          obtain ⟨e1, e2, rfl, -, -, q1, q2⟩ := rg
          obtain ⟨f1, c1, rfl, -⟩ := q1
          obtain ⟨f2, c2, rfl, -⟩ := q2
          generalize (getSlot x2 a3).no = gn at *
          generalize (getSlot x2 a3).k.length = gk at *
          generalize (getSlot x2 a3).v.length = gv at *
          have BD := Lib.hid (bD.nx (al1 wD (.cells #[.int .i64 gn, .slice f1 gk c1, .slice f2 gv c2] 35)))
          clear k0 k1 k2 k3 k4 k5 k6 k7 k8 k9 l0 l2 l3 l6 l9 HGE HRE bD
          go_upto_region 9 with fail
          have HB := Lib.hid (BC.out.nx BD.out)
          have HCD := Lib.hid (keep9w BD.out rfl HCC.out)
          have k9' := (BD.out.cell (block_lt_of_cell K9.out)).trans K9.out
          have RD := Lib.hid (RMsg.below BD.out (n + 1) RC.out)
          have HMW := Lib.hid fun w' (hb : Below (wD.alloc (.cells #[.int .i64 gn, .slice f1 gk c1, .slice f2 gv c2] 35)).heap.size (wD.alloc (.cells #[.int .i64 gn, .slice f1 gk c1, .slice f2 gv c2] 35)) w') => HW.out w' _ (BY.out.nx (HB.out.nx hb)) (RMsg.below hb (n + 1) RD.out)
          have HMV := Lib.hid fun w' (hb : Below (wD.alloc (.cells #[.int .i64 gn, .slice f1 gk c1, .slice f2 gv c2] 35)).heap.size (wD.alloc (.cells #[.int .i64 gn, .slice f1 gk c1, .slice f2 gv c2] 35)) w') => HV.out w' r2 r3 (BY.out.nx (HB.out.nx hb))
          have HB0 := Lib.hid (B3.out.nx (BY.out.nx HB.out))
          clear HCC K9 RC RD BC BD HB HW HV HX2 HXV HCY BY B3 B1 B7
          generalize wD.alloc (.cells #[.int .i64 gn, .slice f1 gk c1, .slice f2 gv c2] 35) = wE at *
          obtain ⟨⟨k0, k1, k2, k3, k4, k5⟩, k6, k7, k8⟩ := HCD.out
          have l0 := block_lt_of_cell k0
          have l2 := block_lt_of_cell k2
          have l3 := block_lt_of_cell k3
          have l6 := block_lt_of_cell k6
          have l9 := block_lt_of_cell k9'
          generalize mayOk S (n + 1) a1 (with1 x2 a3 x4) = q at *
          generalize hasSlot x2 a3 = was at *
          generalize vOk S n r2 r3 x4 = q2 at *
          have hbad : ∀ (hc : (!ris || (was || (r5 != -1))) = true), q = false := by
            intro hc
            cases q with
            | false => rfl
            | true =>
              obtain ⟨h1, h2, h3, -⟩ := HLB.out rfl
              rw [h1, h2, h3] at hc
              simp at hc
          have hgood : q2 = false → q = false := by
            intro hc
            cases q with
            | false => rfl
            | true =>
              obtain ⟨-, -, -, h4⟩ := HLB.out rfl
              rw [hc] at h4
              cases h4
          clear HLB
          cases ris with
          | false =>
            have hq := hbad (by simp)
            subst hq
            clear hbad hgood
            go_wp2_with (go_at_call 16; (with_reducible refine (HMW.out _ ?_).mono ?_); (exact Below.refl _ _); rintro e wF ⟨rfl, bF⟩)
            exact ⟨rfl, _, results_tmp (t := 10) rfl _ _ _, rfl, HB0.out.nx bF⟩
          | true =>
            cases was with
            | true =>
              have hq := hbad (by simp)
              subst hq
              clear hbad hgood
              go_wp2_with (go_at_call 16; (with_reducible refine (HMW.out _ ?_).mono ?_); (exact Below.refl _ _); rintro e wF ⟨rfl, bF⟩)
              exact ⟨rfl, _, results_tmp (t := 10) rfl _ _ _, rfl, HB0.out.nx bF⟩
            | false =>
              cases hr5 : (r5 != -1) with
              | true =>
                have hq := hbad (by rw [hr5]; simp)
                subst hq
                clear hbad hgood
                go_wp2_with (go_at_call 16; (with_reducible refine (HMW.out _ ?_).mono ?_); (exact Below.refl _ _); rintro e wF ⟨rfl, bF⟩)
                exact ⟨rfl, _, results_tmp (t := 10) rfl _ _ _, rfl, HB0.out.nx bF⟩
              | false =>
                clear hbad
                cases q2 with
                | true =>
                  clear hgood
                  go_wp2_with (go_at_call 20; (with_reducible refine (HMV.out _ ?_).mono ?_); (exact Below.refl _ _); rintro e wF ⟨rfl, bF⟩)
                  exact ⟨rfl, _, results_tmp (t := 10) rfl _ _ _, rfl, HB0.out.nx bF⟩
                | false =>
                  have hq := hgood rfl
                  subst hq
                  clear hgood
                  go_wp2_with (first
                    | (go_at_call 20; (with_reducible refine (HMV.out _ ?_).mono ?_); (exact Below.refl _ _); rintro e wF ⟨rfl, bF⟩; (have BF := Lib.hid bF); (have HCF := Lib.hid (keep9w bF rfl HCD.out)); (have kF := (bF.cell l9).trans k9'); (have lF := block_lt_of_cell kF); clear bF k0 k1 k2 k3 k4 k5 k6 k7 k8 l0 l2 l3 l6 l9 k9'; (obtain ⟨⟨k0, k1, k2, k3, k4, k5⟩, k6, k7, k8⟩ := HCF.out); (have l0 := block_lt_of_cell k0); (have l2 := block_lt_of_cell k2); (have l3 := block_lt_of_cell k3))
                    | (go_at_call 16; (with_reducible refine (HMW.out _ ?_).mono ?_); (exact BF.out); rintro e wG ⟨rfl, bG⟩))
                  exact ⟨rfl, _, results_tmp (t := 10) rfl _ _ _, rfl, HB0.out.nx (BF.out.nx bG)⟩

/-! THE ROW -/
set_option maxRecDepth 100000 in
theorem lifted (os : Os) (started : os.Started) (H : Type) (enc : TypeId × Value → H) :
    ReturnsInHanded {} Tryz.checked os 6 .any (Rows.typedWrongSpec.pre6 enc Tryz.prog Tryz.f6 Rows.typedWrongRow.domain false) (Rows.typedWrongSpec.post enc Tryz.prog Tryz.f6 false true false false) := by
  refine returnsInHanded_of_change_sized (C := Tryz.checked) own started (by kernel_rfl) Tryz.func6
    (ChangeSpec.witness6 (enc := enc) (C := Tryz.checked) false ⟨#[], #[.agg #[.slice none 0 0, .slice none 0 0], .int .i64 0, .agg #[.slice none 0 0], .int .i64 0, .agg #[.int .i64 0, .string ByteArray.empty, .slice none 0 0]], []⟩ 8 (by kernel_rfl) (by kernel_rfl) (by kernel_rfl) (by kernel_rfl)) ?_
  intro W base args ds gs before hval0 hW hcnd hsz0 _
  have hsz : (DataW.weightsEach Tryz.prog (Tryz.f6.params.toList ++ Rows.typedWrongSpec.plain.varTypes Tryz.prog) (ds ++ gs)).all (· ≤ reachBytes) = true := hsz0
  have hval : ∀ (j : Nat) t v, Tryz.f6.params[j]? = some t → args[j]? = some v → Value.okWide Tryz.prog W .any base t v := hval0
  have hW' := hW
  obtain ⟨p, q, hA0, hV, rfl, hfz, hnd⟩ := hW
  have hA : DataW.TrodAll enc Tryz.prog W 0 (fun _ => true) true Tryz.f6.params.toList args.toList ds p := hA0
  rw [Tryz.params6] at hA hval hsz
  obtain ⟨v0, vs0, d0, ds0, p0, q0, hargs, rfl, rfl, h0, r0⟩ := trodAll_cons hA
  obtain ⟨v1, vs1, d1, ds1, p1, q1, rfl, rfl, rfl, h1, r1⟩ := trodAll_cons r0
  obtain ⟨v2, vs2, d2, ds2, p2, q2, rfl, rfl, rfl, h2, r2⟩ := trodAll_cons r1
  obtain ⟨v3, vs3, d3, ds3, p3, q3, rfl, rfl, rfl, h3, r3⟩ := trodAll_cons r2
  obtain ⟨v4, vs4, d4, ds4, p4, q4, rfl, rfl, rfl, h4, r4⟩ := trodAll_cons r3
  obtain ⟨rfl, rfl, rfl⟩ := trodAll_nil r4
  obtain rfl : args = #[v0, v1, v2, v3, v4] := by cases args; simp_all
  obtain ⟨rfl, rfl⟩ := trodVars_none hV
  have k0 := h0
  have lt0 : ∀ x ∈ p0, x.block < W.heap.size := by obtain ⟨m, hm⟩ := k0; exact DataW.trod_lt m _ _ _ hm
  have hw0 : ∀ z ∈ d0.weights Tryz.prog 25, z ≤ reachBytes := fun z hz => by simpa using List.all_eq_true.1 hsz z (DataW.weights_mem_each (j := 0) rfl rfl z hz)
  obtain ⟨c0, rfl, -⟩ := okWide_struct Tryz.underlying25 (hval 0 25 v0 rfl rfl)
  obtain ⟨fuel0, hf0⟩ := h0
  obtain ⟨A0a, c0a, M0, A0b, c0b, E0, e0, g0⟩ := open_schema hf0 hw0
  have e0' : c0 = #[.slice A0a M0.length c0a, .slice A0b E0.length c0b] := by apply Array.ext'; simpa [Value.cells] using e0
  subst e0'
  obtain ⟨a1, rfl, rfl, rfl, w1⟩ := open_int Tryz.underlying3 (hval 1 3 v1 rfl rfl) h1
  have k2 := h2
  have lt2 : ∀ x ∈ p2, x.block < W.heap.size := by obtain ⟨m, hm⟩ := k2; exact DataW.trod_lt m _ _ _ hm
  have hw2 : ∀ z ∈ d2.weights Tryz.prog 28, z ≤ reachBytes := fun z hz => by simpa using List.all_eq_true.1 hsz z (DataW.weights_mem_each (j := 2) rfl rfl z hz)
  obtain ⟨c2, rfl, -⟩ := okWide_struct Tryz.underlying28 (hval 2 28 v2 rfl rfl)
  obtain ⟨fuel2, hf2⟩ := h2
  obtain ⟨x2, g2⟩ : ∃ x, RMsg Go.Proofs.YthikfifoomfjgaaGreat.Great 0 W fuel2 c2.toList x := open_msg fuel2 _ _ hf2 hw2
  obtain ⟨a3, rfl, rfl, rfl, w3⟩ := open_int Tryz.underlying3 (hval 3 3 v3 rfl rfl) h3
  have k4 := h4
  have lt4 : ∀ x ∈ p4, x.block < W.heap.size := by obtain ⟨m, hm⟩ := k4; exact DataW.trod_lt m _ _ _ hm
  have hw4 : ∀ z ∈ d4.weights Tryz.prog 39, z ≤ reachBytes := fun z hz => by simpa using List.all_eq_true.1 hsz z (DataW.weights_mem_each (j := 4) rfl rfl z hz)
  obtain ⟨c4, rfl, -⟩ := okWide_struct Tryz.underlying39 (hval 4 39 v4 rfl rfl)
  obtain ⟨fuel4, hf4⟩ := h4
  obtain ⟨x4, g4⟩ : ∃ x, RVal Go.Proofs.YthikfifoomfjgaaGreat.Great 0 W (RMsg Go.Proofs.YthikfifoomfjgaaGreat.Great 0 W fuel4) c4.toList x := open_val (fun m _ => open_msg m) hf4 hw4
  clear hA0 hval0 hsz0 hsz
  refine (walk (fuel2 + fuel4) W _ _ M0 _ _ E0 g0 a1 (PA.int_wf w1) c2.toList x2 (RMsg.keep (Nat.le_refl _) (Keeps.refl _ _) _ _ (by omega) g2) a3 (PA.int_wf w3) c4.toList x4 (g4.keep (Nat.le_refl _) (by omega) (Keeps.refl _ _))).mono fun e W' ⟨he, bel⟩ => ?_
  subst he
  exact ⟨_, rfl, _, _, _, [], _, [], hW', trodAll_mk1 (shut_bool Tryz.underlying4 _), (trodAll_cons_mk (Below.trod laidOut (by kernel_rfl) (of_decide_eq_true (by kernel_rfl)) k0 bel lt0) (trodAll_cons_mk (shut_int Tryz.underlying3 w1) (trodAll_cons_mk (Below.trod laidOut (by kernel_rfl) (of_decide_eq_true (by kernel_rfl)) k2 bel lt2) (trodAll_cons_mk (shut_int Tryz.underlying3 w3) (trodAll_cons_mk (Below.trod laidOut (by kernel_rfl) (of_decide_eq_true (by kernel_rfl)) k4 bel lt4) trodAll_mk0))))), rfl, bel.frame _, fun h => by cases h⟩

theorem over : Rows.typedWrongRow.holds Tryz.pinned (OpenSpec.ofChange Rows.typedWrongSpec) :=
  OpenClaim.holds_of_wide 6 Tryz.f6 rfl rfl rfl rfl rfl rfl rfl ⟨rfl, rfl, rfl, rfl, rfl⟩ rfl rfl rfl rfl rfl (by kernel_rfl) Tryz.func6 (by kernel_rfl)
    (of_decide_eq_true (by kernel_rfl)) (by unfold Func.isWrapper; first | (rw [if_pos (by decide +kernel)]; kernel_rfl) | (rw [if_neg (by decide +kernel)]; exact ⟨rfl, rfl⟩))
    (fun os started H enc _ => lifted os started H enc)

/-- THE STATEMENT -/
theorem proved : Rows.TypedWrongSaid := over
#print axioms proved
end Go.Proofs.YthikfifoomfjgaaGreat.typedWrong
