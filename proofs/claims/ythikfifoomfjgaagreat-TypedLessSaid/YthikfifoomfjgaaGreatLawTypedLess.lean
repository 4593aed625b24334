/- The statement TypedLess: for all schemas, numbers, messages and places, a message without one of its slots is of its message too, normal it is without that slot, and with the slot set again it is the normal one; no condition. -/
import Derived.Test.YthikfifoomfjgaaGreatRows
import Derived.WalkKit
import Derived.ProofKit
import Derived.OpenShut
import Derived.ShutString
import Derived.ChangeOld
import Derived.Below
import Derived.Deep.RegionHeld3
import Derived.Deep.DeepCutAuto
import Derived.WalkSpells
import Derived.SizedLaws
import Derived.ChangeSlices
import Derived.Test.YthikfifoomfjgaaGreatPlainP10
import Derived.Test.YthikfifoomfjgaaGreatLessP10
import Derived.Test.YthikfifoomfjgaaGreatRefSameP10
namespace Go.Proofs.YthikfifoomfjgaaGreat.typedLess
open Go.ChangeShapes Go.WideShapes Go.ChangeAt Go.RowKit Go.Tr Go.Proofs.YthikfifoomfjgaaGreat Go.Proofs.YthikfifoomfjgaaGreat.PA Go.Proofs.YthikfifoomfjgaaGreatW.PrintWords Go.Proofs.YthikfifoomfjgaaGreatW.PrintLast Go.Proofs.YthikfifoomfjgaaGreatW.PrintMore
set_option linter.unusedVariables false
set_option linter.unusedSimpArgs false

theorem own : ownKnob Tryz.prog.godebug = none := by kernel_rfl
theorem laidOut : laidOutB Tryz.prog = true := by kernel_rfl
theorem keep3n {w w' : World} {p0 p1 p2 : Addr} {v0 v1 v2 : Value} {K : Nat} (b : Below K w w') (hK : K = w.heap.size) (h : w.cell? p0 = some v0 ∧ w.cell? p1 = some v1 ∧ w.cell? p2 = some v2) : w'.cell? p0 = some v0 ∧ w'.cell? p1 = some v1 ∧ w'.cell? p2 = some v2 := keep3w b hK h
theorem keep1n {w w' : World} {p0 : Addr} {v0 : Value} {K : Nat} (b : Below K w w') (hK : K = w.heap.size) (h : w.cell? p0 = some v0) : w'.cell? p0 = some v0 := by subst hK; exact (b.cell (block_lt_of_cell h)).trans h
theorem keep4n {w w' : World} {p0 p1 p2 p3 : Addr} {v0 v1 v2 v3 : Value} {K : Nat} (b : Below K w w') (hK : K = w.heap.size) (h : (w.cell? p0 = some v0 ∧ w.cell? p1 = some v1 ∧ w.cell? p2 = some v2) ∧ w.cell? p3 = some v3) : (w'.cell? p0 = some v0 ∧ w'.cell? p1 = some v1 ∧ w'.cell? p2 = some v2) ∧ w'.cell? p3 = some v3 := ⟨keep3n b hK h.1, keep1n b hK h.2⟩
theorem keep5n {w w' : World} {p0 p1 p2 p3 p4 : Addr} {v0 v1 v2 v3 v4 : Value} {K : Nat} (b : Below K w w') (hK : K = w.heap.size) (h : w.cell? p0 = some v0 ∧ w.cell? p1 = some v1 ∧ w.cell? p2 = some v2 ∧ w.cell? p3 = some v3 ∧ w.cell? p4 = some v4) :
    w'.cell? p0 = some v0 ∧ w'.cell? p1 = some v1 ∧ w'.cell? p2 = some v2 ∧ w'.cell? p3 = some v3 ∧ w'.cell? p4 = some v4 := by
  subst hK
  obtain ⟨h0, h1, h2, h3, h4⟩ := h
  exact ⟨(b.cell (block_lt_of_cell h0)).trans h0, (b.cell (block_lt_of_cell h1)).trans h1, (b.cell (block_lt_of_cell h2)).trans h2, (b.cell (block_lt_of_cell h3)).trans h3, (b.cell (block_lt_of_cell h4)).trans h4⟩
theorem below_cells {B g : Nat} (hg : B ≤ g) : ∀ (vs : List Value) (o : Nat) (w : World), Below B w (w.setCells g o vs)
  | [], _, w => Below.refl B w
  | v :: r, o, w => ((Below.refl B w).setCell (p := ⟨g, o, none⟩) hg v).trans (below_cells hg r (o + 1) _)
theorem normSlot_len (S : Sch) (rec : Int → Msg → Msg) (m : Int) (y : Slot) : (normSlot S rec m y).length ≤ 1 := by
  unfold normSlot
  split
  · simp
  · split <;> simp
theorem normSlots_len (S : Sch) (rec : Int → Msg → Msg) (m : Int) : ∀ l : List Slot, (l.flatMap (normSlot S rec m)).length ≤ l.length
  | [] => by simp
  | y :: l => by
    have h1 := normSlot_len S rec m y
    have h2 := normSlots_len S rec m l
    simp only [List.flatMap_cons, List.length_append, List.length_cons]
    omega
theorem norm_len (S : Sch) (n : Nat) (m : Int) (x : Msg) : (norm S (n + 1) m x).f.length ≤ x.f.length := by
  rw [norm_succ, (sortNo_perm _).length_eq]
  exact normSlots_len S _ m x.f
/-- The place of one slot's number. -/
theorem no_at {L n : Nat} {w : World} {a : Option Addr} {cap : Nat} {x : Msg} (h : RMsg L 0 w (n + 1) [.slice a x.f.length cap] x) (i : Nat) (hi : i < x.f.length) :
    ∃ b off, a = some ⟨b, off, none⟩ ∧ w.cell? ⟨b, off + i * 3, none⟩ = some (.int .i64 x.f[i].no) ∧ -9223372036854775808 ≤ x.f[i].no ∧ x.f[i].no ≤ 9223372036854775807 := by
  obtain ⟨c, e, h⟩ := h
  cases e
  obtain ⟨a, cap, e, -, -, -, -, h⟩ := h
  cases e
  obtain ⟨b, off, rfl, -, h⟩ := h (fun e => by rw [e] at hi; simp at hi)
  obtain ⟨cs, -, h1, h2⟩ := h i hi
  obtain ⟨c, d, rfl, q1, q2, -⟩ := h2
  exact ⟨b, off, rfl, h1 0 _ rfl, q1, q2⟩
/-- value.Get, its result as three cells. -/
theorem get_out (n : Nat) (no : Int) (hn1 : -9223372036854775808 ≤ no) (hn2 : no ≤ 9223372036854775807) (w : World) (cs : List Value) (z : Msg) (hx : RMsg 10000 0 w (n + 1) cs z) :
    Calls Tryz.prog 23 #[.agg cs.toArray, .int .i64 no] w fun e w' => ∃ (k : Int) (f1 : Option Addr) (l1 c1 : Nat) (f2 : Option Addr) (l2 c2 : Nat), e = .returned (.tuple #[.agg #[.int .i64 k, .slice f1 l1 c1, .slice f2 l2 c2], .bool (hasSlot z no)]) ∧ RSlot 10000 w.heap.size w' (RMsg 10000 w.heap.size w' n) [.int .i64 k, .slice f1 l1 c1, .slice f2 l2 c2] (getSlot z no) ∧ Below w.heap.size w w' := by
  refine (value_get 10000 n (by omega) no hn1 hn2 w cs z hx).mono ?_
  rintro e w' ⟨ds, rfl, r, b⟩
  have r' := r
  obtain ⟨c, d, rfl, -, -, hc, hd⟩ := r
  obtain ⟨f1, c1, rfl, -⟩ := hc
  obtain ⟨f2, c2, rfl, -⟩ := hd
  exact ⟨_, _, _, _, _, _, _, rfl, r', b⟩
theorem keep6n {w w' : World} {p0 p1 p2 p3 p4 p5 : Addr} {v0 v1 v2 v3 v4 v5 : Value} {K : Nat} (b : Below K w w') (hK : K = w.heap.size) (h : ((w.cell? p0 = some v0 ∧ w.cell? p1 = some v1 ∧ w.cell? p2 = some v2) ∧ w.cell? p3 = some v3) ∧ w.cell? p4 = some v4 ∧ w.cell? p5 = some v5) : ((w'.cell? p0 = some v0 ∧ w'.cell? p1 = some v1 ∧ w'.cell? p2 = some v2) ∧ w'.cell? p3 = some v3) ∧ w'.cell? p4 = some v4 ∧ w'.cell? p5 = some v5 := ⟨keep4n b hK h.1, keep1n b hK h.2.1, keep1n b hK h.2.2⟩
/-- A new box for a slot, kept. -/
theorem box_kept {w w' : World} {t : TypeId} (K : Nat) (hK : K = w.heap.size) (b : Below (w.alloc (.cells #[.int .i64 0, .slice none 0 0, .slice none 0 0] t)).heap.size (w.alloc (.cells #[.int .i64 0, .slice none 0 0, .slice none 0 0] t)) w') :
    w'.cell? ⟨K, 0, none⟩ = some (.int .i64 0) ∧ w'.cell? ⟨K, 1, none⟩ = some (.slice none 0 0) ∧ w'.cell? ⟨K, 2, none⟩ = some (.slice none 0 0) ∧ w'.frozen? ⟨K, 0, none⟩ = false ∧ w'.frozen? ⟨K, 1, none⟩ = false ∧ w'.frozen? ⟨K, 2, none⟩ = false := by
  subst hK
  refine ⟨?_, ?_, ?_, ?_, ?_, ?_⟩
  · exact (b.cell (p := ⟨w.heap.size, 0, none⟩) (by simp)).trans (by simp [go_sem])
  · exact (b.cell (p := ⟨w.heap.size, 1, none⟩) (by simp)).trans (by simp [go_sem])
  · exact (b.cell (p := ⟨w.heap.size, 2, none⟩) (by simp)).trans (by simp [go_sem])
  · exact (b.frozen (p := ⟨w.heap.size, 0, none⟩) (by simp)).trans (by simp [go_sem])
  · exact (b.frozen (p := ⟨w.heap.size, 1, none⟩) (by simp)).trans (by simp [go_sem])
  · exact (b.frozen (p := ⟨w.heap.size, 2, none⟩) (by simp)).trans (by simp [go_sem])
/-- Behind a slot that was got and boxed. -/
def GetOut (n : Nat) (W : World) (no : Int) (z : Msg) (o p : Value) (wc : World) : Prop :=
  ∃ (K : Nat) (c0 c1 c2 : Value), o = .pointer (some ⟨K, 0, none⟩) ∧ p = .bool (hasSlot z no) ∧ Hid (wc.cell? ⟨K, 0, none⟩ = some c0 ∧ wc.cell? ⟨K, 1, none⟩ = some c1 ∧ wc.cell? ⟨K, 2, none⟩ = some c2) ∧ Hid (Below W.heap.size W wc) ∧ Hid (RSlot 10000 0 wc (RMsg 10000 0 wc n) [c0, c1, c2] (getSlot z no))
theorem getout_new {n : Nat} {W y : World} {no : Int} {z : Msg} {B : Nat} {c0 c1 c2 : Value} {t : TypeId} (D : Below W.heap.size W y) (r : RSlot 10000 B y (RMsg 10000 B y n) [c0, c1, c2] (getSlot z no)) :
    GetOut n W no z (.pointer (some ⟨y.heap.size, 0, none⟩)) (.bool (hasSlot z no)) (y.alloc (.cells #[c0, c1, c2] t)) :=
  ⟨y.heap.size, c0, c1, c2, rfl, rfl, ⟨by simp [go_sem], by simp [go_sem], by simp [go_sem]⟩, D.nx (al1 _ _), rslot_keepB 10000 n B 0 y _ _ _ (Nat.zero_le _) (.of_below (al1 _ _)) r⟩
theorem getout_old {n : Nat} {W y : World} {no : Int} {z : Msg} {B K : Nat} {c0 c1 c2 u0 u1 u2 : Value} (z0 : y.cell? ⟨K, 0, none⟩ = some u0) (z1 : y.cell? ⟨K, 1, none⟩ = some u1) (z2 : y.cell? ⟨K, 2, none⟩ = some u2) (hK : W.heap.size ≤ K) (hB : K < B) (D : Below W.heap.size W y) (r : RSlot 10000 B y (RMsg 10000 B y n) [c0, c1, c2] (getSlot z no)) :
    GetOut n W no z (.pointer (some ⟨K, 0, none⟩)) (.bool (hasSlot z no)) (((y.setCell ⟨K, 0, none⟩ c0).setCell ⟨K, 1, none⟩ c1).setCell ⟨K, 2, none⟩ c2) := by
  have e01 : (⟨K, 0, none⟩ : Addr) ≠ ⟨K, 1, none⟩ := by simp
  have e02 : (⟨K, 0, none⟩ : Addr) ≠ ⟨K, 2, none⟩ := by simp
  have e12 : (⟨K, 1, none⟩ : Addr) ≠ ⟨K, 2, none⟩ := by simp
  refine ⟨K, c0, c1, c2, rfl, rfl, ⟨?_, ?_, ?_⟩, ((D.setCell (p := ⟨K, 0, none⟩) hK _).setCell (p := ⟨K, 1, none⟩) hK _).setCell (p := ⟨K, 2, none⟩) hK _, rslot_keepB 10000 n B 0 y _ _ _ (Nat.zero_le _) (fun p v hp hv => ?_) r⟩
  · rw [World.cell?_setCell_other _ _ _ _ (by simp), World.cell?_setCell_other _ _ _ _ (by simp)]
    exact World.cell?_setCell_same _ _ _ z0
  · rw [World.cell?_setCell_other _ _ _ _ (by simp)]
    exact World.cell?_setCell_same _ _ _ (show _ = some u1 by rw [World.cell?_setCell_other _ _ _ _ (by simp)]; exact z1)
  · exact World.cell?_setCell_same _ _ _ (show _ = some u2 by rw [World.cell?_setCell_other _ _ _ _ (by simp), World.cell?_setCell_other _ _ _ _ (by simp)]; exact z2)
  · rw [World.cell?_setCell_other _ _ _ _ (fun e => by subst e; simp only at hp; omega), World.cell?_setCell_other _ _ _ _ (fun e => by subst e; simp only at hp; omega), World.cell?_setCell_other _ _ _ _ (fun e => by subst e; simp only at hp; omega)]
    exact hv
/-! THE WALK -/
set_option maxHeartbeats 8000000 in
set_option maxRecDepth 100000 in
theorem walk (n : Nat) (w : World) (A0a : Option Addr) (c0a : Nat) (M0 : List S58) (A0b : Option Addr) (c0b : Nat) (E0 : List S79) (h0 : OkSchema w A0a c0a M0 A0b c0b E0) (a1 : Int) (w1 : -9223372036854775808 ≤ a1 ∧ a1 ≤ 9223372036854775807) (cs2 : List Value) (x2 : Msg) (h2 : RMsg Go.Proofs.YthikfifoomfjgaaGreat.Great 0 w n cs2 x2) (a3 : Int) (w3 : -9223372036854775808 ≤ a3 ∧ a3 ≤ 9223372036854775807) :
    Calls Tryz.prog 8 #[.agg #[.slice A0a M0.length c0a, .slice A0b E0.length c0b], .int .i64 a1, .agg cs2.toArray, .int .i64 a3] w fun e w' => e = .returned (.bool true) ∧ Below w.heap.size w w' := by
  cases n with
  | zero => exact h2.elim
  | succ n =>
  have hm1 := w1
  have hm3 := w3
  clear w1 w3
  obtain ⟨HAT, HOK, hfs⟩ := Sch.of_ok h0
  obtain ⟨S, hS⟩ : ∃ S : Sch, S = ⟨M0, E0, A0a, A0b, c0a, c0b⟩ := ⟨_, rfl⟩
  have hcells : (#[.slice A0a M0.length c0a, .slice A0b E0.length c0b] : Array Value) = #[.slice S.A0 S.M.length S.c0, .slice S.A1 S.E.length S.c1] := by rw [hS]
  rw [hcells]
  have HFS : Hid (FewP S.M S.E → okSchema S.M S.E = true) := Lib.hid (by rw [hS]; exact hfs)
  rw [← hS] at HAT HOK
  have HA := Lib.hid fun w' => awake10 w'
  have HSA := Lib.hid HAT
  have HFO := Lib.hid HOK
  obtain ⟨v2, rfl, -⟩ := rmsg_one Great 0 (n + 1) w _ _ h2
  obtain ⟨a2, cap2, rfl⟩ : ∃ a cap, v2 = .slice a x2.f.length cap := by
    obtain ⟨c, e, r⟩ := h2
    cases e
    obtain ⟨a, cap, rfl, -⟩ := r
    exact ⟨a, cap, rfl⟩
  have H2 := Lib.hid h2
  clear HAT HOK hfs h0 h2 hcells hS
  go_enter Tryz.func8, Tryz.ntmps8
  go_wp2_with fail
  refine (HA.out _).mono ?_; rintro e w1 ⟨rfl, b1⟩
  have kk : w1.cell? ⟨w.heap.size, 0, none⟩ = some (.slice S.A0 S.M.length S.c0) ∧ w1.cell? ⟨w.heap.size, 1, none⟩ = some (.slice S.A1 S.E.length S.c1) ∧ w1.cell? ⟨w.heap.size + 1, 0, none⟩ = some (.slice a2 x2.f.length cap2) :=
    keep3n b1 rfl (by refine ⟨?_, ?_, ?_⟩ <;> simp [go_sem])
  have B1 := Lib.hid ((al2 _ _ _).nx b1)
  clear b1
  have KK := Lib.hid kk
  obtain ⟨k0, k1, k2⟩ := kk
  have l0 := block_lt_of_cell k0
  have l2 := block_lt_of_cell k2
  have hfew := few10 S Great (n + 1) (by decide) w1 (HSA.out.below B1.out) [_] _ (RMsg.below B1.out (n + 1) H2.out)
  unfold Sch.cells at hfew
  have HFEW := Lib.hid hfew
  clear hfew
  go_wp2_with fail
  refine HFEW.out.mono ?_; rintro e w4 ⟨⟨b, rfl, hb⟩, b4⟩
  have KK4 := Lib.hid (keep3n b4 rfl KK.out)
  have B4 := Lib.hid (B1.out.nx b4)
  clear b4 HFEW k0 k1 k2 l0 l2 KK B1
  obtain ⟨k0, k1, k2⟩ := KK4.out
  have l0 := block_lt_of_cell k0
  have l2 := block_lt_of_cell k2
  cases b with
  | false =>
    go_wp2_with fail
    exact ⟨rfl, _, results_tmp (t := 8) rfl _ _ _, rfl, B4.out⟩
  | true =>
    obtain ⟨hfp, hlt⟩ := hb (by first | rfl | trivial)
    have hok := HFS.out hfp
    have HX := Lib.hid (RMsg.below B4.out (n + 1) (H2.out.shrink (L' := 10000) (n + 1) (by have := hlt.1; omega)))
    have hl2 : x2.f.length ≤ 3000 := by have h1 := weight_f x2; have := hlt.1; omega
    have hnm : ∀ w' cs x, Below w4.heap.size w4 w' → RMsg 10000 0 w' (n + 1) cs x → _ := fun w' cs x hb h => typed_normal S HFO.out hok n w' (HSA.out.below (B4.out.nx hb)) a1 cs x h
    have his : ∀ w' cs x, Below w4.heap.size w4 w' → RMsg 10000 0 w' (n + 1) cs x → _ := fun w' cs x hb h => typed_is S HFO.out hok n w' (HSA.out.below (B4.out.nx hb)) a1 cs x h
    have HMY := Lib.hid (typed_may S HFO.out hok 10000 (n + 1) (by omega) w4 (HSA.out.below B4.out) a1 _ _ HX.out)
    unfold Sch.cells at hnm his HMY
    clear hb hfp hlt hok HFS H2
    cases hq : mayOk S (n + 1) a1 x2 with
    | false =>
      rw [hq] at HMY
      clear hq hnm his
      go_wp2_with (go_at_call 16; (with_reducible refine HMY.out.mono ?_); rintro e w5 ⟨rfl, b5⟩)
      exact ⟨rfl, _, results_tmp (t := 8) rfl _ _ _, rfl, B4.out.nx b5⟩
    | true =>
      rw [hq] at HMY
      have HQ := Lib.hid hq
      clear hq
      go_upto_region 5 with (go_at_call 16; (with_reducible refine HMY.out.mono ?_); rintro e w5 ⟨rfl, b5⟩; (have B5 := Lib.hid b5); (have KK5 := Lib.hid (keep3n b5 rfl KK4.out)); clear b5)
      clear k0 k1 k2 l0 l2 HMY KK4
      obtain ⟨k0, k1, k2⟩ := KK5.out
      have l0 := block_lt_of_cell k0
      have l2 := block_lt_of_cell k2
      have hout : (a3 < 0 ∨ (x2.f.length : Int) ≤ a3) → Hid (∀ w', Below w4.heap.size w4 w' → Calls Tryz.prog 18 #[.agg #[.slice S.A0 S.M.length S.c0, .slice S.A1 S.E.length S.c1], .int .i64 a1, .agg #[.slice none 0 0]] w' fun e w2 => e = .returned (.bool true) ∧ Below w'.heap.size w' w2) := fun _ => Lib.hid fun w' hb => by
        have he := empty_ok HQ.out
        have h := his w' [.slice none 0 0] (.mk []) hb ⟨_, rfl, rowNil _ _ _ _ _⟩
        rw [he.1, he.2, (same_iff _ _).2 rfl] at h
        exact h
      by_cases d1 : a3 < 0
      · have dk : decide (a3 < 0) = true := by simpa using d1
        have HO := hout (.inl d1)
        clear d1 hout hnm his
        go_wp2_with (go_at_call 18; (with_reducible refine (HO.out _ ?_).mono ?_); (exact B5.out); rintro e w6 ⟨rfl, b6⟩)
        exact ⟨rfl, _, results_tmp (t := 8) rfl _ _ _, rfl, B4.out.nx (B5.out.nx b6)⟩
      · have dk1 : decide (a3 < 0) = false := by simpa using d1
        by_cases d2 : (x2.f.length : Int) ≤ a3
        · have dk2 : decide ((x2.f.length : Int) ≤ a3) = true := by simpa using d2
          have HO := hout (.inr d2)
          clear d1 d2 hout hnm his
          go_wp2_with (go_at_call 18; (with_reducible refine (HO.out _ ?_).mono ?_); (exact B5.out); rintro e w6 ⟨rfl, b6⟩)
          exact ⟨rfl, _, results_tmp (t := 8) rfl _ _ _, rfl, B4.out.nx (B5.out.nx b6)⟩
        · have dk2 : decide ((x2.f.length : Int) ≤ a3) = false := by simpa using d2
          obtain ⟨i, rfl⟩ : ∃ i : Nat, a3 = (i : Int) := ⟨a3.toNat, by omega⟩
          have hi : i < x2.f.length := by omega
          clear d1 d2 hout his hm3
          have HOW := Lib.hid (ref_ownG 10000 n (by omega) w5 [_] x2 (RMsg.below B5.out (n + 1) HX.out))
          go_wp2_with fail
          refine HOW.out.mono ?_; rintro e w7 ⟨v7, rfl, hg7, -, b7, hY7⟩
          obtain ⟨g, cap, news, rfl, hgB, hgW, hlc, hcm, hnl, hn1, hnW, hnR⟩ := less_open hg7 i hi
          have KK7 := Lib.hid (keep3n b7 rfl KK5.out)
          have B7 := Lib.hid b7
          have HNL := Lib.hid hnl
          have HN1 := Lib.hid hn1
          have HNW := Lib.hid hnW
          have HNR := Lib.hid hnR
          clear hg7 b7 HOW hnl hn1 hnW hnR k0 k1 k2 l0 l2
          obtain ⟨k0, k1, k2⟩ := KK7.out
          have l0 := block_lt_of_cell k0
          have l2 := block_lt_of_cell k2
          go_upto_region 8 with fail
          go_cut [11] from 53 to 63 (fun o wc => o = .pointer (some ⟨w7.heap.size, 0, none⟩) ∧ ∃ ylen, Hid (Below w5.heap.size w5 wc ∧ RMsg 10000 0 wc (n + 1) [.slice (some ⟨g, 0, none⟩) ylen cap] (.mk (less x2.f i)) ∧ wc.cell? ⟨w7.heap.size, 0, none⟩ = some (.slice (some ⟨g, 0, none⟩) ylen cap)))
          case first =>
            have hm63 : cap ≤ 9223372036854775807 := by unfold maxLen at hcm; omega
            have hwr : IntKind.i64.wrap ((i : Int) + 1) = (i : Int) + 1 := by rw [IntKind.wrap_i64]; omega
            have hp0 : (0 : Int) ≤ (i : Int) + 1 := by omega
            have hp1 : (i : Int) + 1 ≤ (x2.f.length : Int) := by omega
            have hp2 : ((i : Int) + 1).toNat = i + 1 := by omega
            have hic : i ≤ cap := by omega
            have hD := ((al1 w7 (.cells #[.slice (some ⟨g, 0, none⟩) x2.f.length cap] 28)).drew)
            obtain ⟨A, hA, hnews⟩ : ∃ A : Addr, (if cap = i + 1 then some (⟨g, 0, none⟩ : Addr) else some ⟨g, (i + 1) * 3, none⟩) = some A ∧ Hid (∀ j u, news[j]? = some u → (w7.alloc (.cells #[.slice (some ⟨g, 0, none⟩) x2.f.length cap] 28)).drew.cell? (A.add j) = some u) := by
              by_cases h : cap = i + 1
              · refine ⟨⟨g, 0, none⟩, by simp [h], Lib.hid fun j u hu => ?_⟩
                have h0 : news.length = 0 := by rw [HNL.out]; omega
                rw [List.length_eq_zero_iff.1 h0] at hu
                simp at hu
              · refine ⟨⟨g, (i + 1) * 3, none⟩, by simp [h], Lib.hid fun j u hu => ?_⟩
                rw [Addr.add_lit]
                exact (HNW.out _ hD).1 j u hu
            have hsp := Lib.hid (HNW.out _ hD).2
            obtain ⟨i3, hi3, hz3, hs3, hb3⟩ := info_parts (P := Tryz.prog) (e := 35) (z := .agg #[.int .i64 0, .slice none 0 0, .slice none 0 0]) (size := 3) (bytes := 56) (by kernel_rfl)
            have hkc : ((w7.alloc (.cells #[.slice (some ⟨g, 0, none⟩) x2.f.length cap] 28)).drew.setCells g (i * 3) news).cell? ⟨w7.heap.size, 0, none⟩ = some (.slice (some ⟨g, 0, none⟩) x2.f.length cap) := by
              rw [World.cell?_setCells_out _ _ _ _ _ (fun e _ => absurd e (by show w7.heap.size ≠ g; omega))]
              exact al_new w7 _ _
            have hkf : ((w7.alloc (.cells #[.slice (some ⟨g, 0, none⟩) x2.f.length cap] 28)).drew.setCells g (i * 3) news).frozen? ⟨w7.heap.size, 0, none⟩ = false := by
              rw [World.frozen?_setCells]
              exact al_newf w7 _ _
            clear hD
            have hy : ∀ W : World, W = ((w7.alloc (.cells #[.slice (some ⟨g, 0, none⟩) x2.f.length cap] 28)).drew.setCells g (i * 3) news).setCell ⟨w7.heap.size, 0, none⟩ (.slice (some ⟨g, 0, none⟩) (i + (x2.f.length - (i + 1))) cap) → Below w5.heap.size w5 W ∧ RMsg 10000 0 W (n + 1) [.slice (some ⟨g, 0, none⟩) (i + (x2.f.length - (i + 1))) cap] (.mk (less x2.f i)) ∧ W.cell? ⟨w7.heap.size, 0, none⟩ = some (.slice (some ⟨g, 0, none⟩) (i + (x2.f.length - (i + 1))) cap) := by
              rintro W rfl
              refine ⟨?_, ?_, World.cell?_setCell_same _ _ _ hkc⟩
              · exact (((B7.out.nx (al1 _ _)).drew).trans (below_cells (by omega) _ _ _)).setCell (p := ⟨w7.heap.size, 0, none⟩) (by simp; omega) _
              · obtain ⟨W, hW, h⟩ := HNR.out _ (.slice (some ⟨g, 0, none⟩) (i + (x2.f.length - (i + 1))) cap) ((al1 w7 (.cells #[.slice (some ⟨g, 0, none⟩) x2.f.length cap] 28)).drew) (by omega)
                rw [hW, Nat.zero_add] at h
                exact h
            go_region_law (refine step_append_room rfl (.tmp 56) (.tmp 61) 26 rfl 35 i3 3 Tryz.underlying26 hi3 hs3 g 0 i cap (by simp [Act.eval, Act.put]) A (x2.f.length - (i + 1)) (cap - (i + 1)) news (by simp [Act.eval, Act.put]) HNL.out hnews.out HN1.out (by omega) hsp.out ?_)
            all_goals (go_wp2_with fail; go_meet)
            all_goals exact ⟨rfl, _, Lib.hid (hy _ rfl)⟩
          case rest =>
            obtain ⟨rfl, ylen, HY⟩ := hcut
            clear HNL HN1 HNW HNR hgB hgW hlc hcm hY7 k0 k1 k2 l0 l2
            obtain ⟨bB, rB, kB⟩ := HY.out
            have BB := Lib.hid (B5.out.nx bB)
            have KKB := Lib.hid (And.intro (keep3n bB rfl KK5.out) kB)
            have RB := Lib.hid rB
            clear bB rB kB HY KK5 KK7 B7
            obtain ⟨⟨k0, k1, k2⟩, k3⟩ := KKB.out
            have l0 := block_lt_of_cell k0
            have l2 := block_lt_of_cell k2
            have l3 := block_lt_of_cell k3
            have hq2 := less_ok i HQ.out
            have HLL := Lib.hid (law_less S n a1 x2 i hi HQ.out)
            have hnl := norm_len S n a1 x2
            have hnk := norm_len S n a1 (.mk (less x2.f i))
            have hkl : (less x2.f i).length ≤ 3000 := Nat.le_trans (less_sub x2.f i).length_le hl2
            have HLN := Lib.hid (show (norm S (n + 1) a1 (.mk (less x2.f i))).f.length + 1 ≤ 10000 by
              have : (Msg.mk (less x2.f i)).f.length ≤ 3000 := hkl
              omega)
            have hx1 : nrm S (n + 1) a1 x2 = norm S (n + 1) a1 x2 := by unfold nrm; rw [if_pos HQ.out]
            have hx2 : nrm S (n + 1) a1 (.mk (less x2.f i)) = norm S (n + 1) a1 (.mk (less x2.f i)) := by unfold nrm; rw [if_pos hq2]
            have h1 := hnm wc _ x2 BB.out (RMsg.below BB.out (n + 1) HX.out)
            rw [HQ.out, hx1] at h1
            have HN1 := Lib.hid h1
            have HN2 := Lib.hid (fun w' hb => by have h := hnm w' _ (.mk (less x2.f i)) (BB.out.nx hb) (RMsg.below hb (n + 1) RB.out); rw [hq2, hx2] at h; exact h)
            obtain ⟨b0, off0, rfl, hno, hno1, hno2⟩ := no_at HX.out i hi
            have hk0 := keep1n BB.out rfl hno
            clear h1 hnm hq2 hx1 hx2 hnl hnk hkl RB HSA HFO HX HQ hno
            generalize norm S (n + 1) a1 (.mk (less x2.f i)) = zk at *
            generalize norm S (n + 1) a1 x2 = zx at *
            generalize hnn : x2.f[i].no = no at *
            clear hnn
            go_wp2_with fail
            refine HN1.out.mono ?_; rintro e w9 ⟨v9, rfl, hv9, b9⟩
            obtain ⟨na, rfl⟩ : ∃ na, v9 = na := ⟨_, rfl⟩
            obtain ⟨na, nn, nc, rfl⟩ := rmsg_slice hv9
            have A9 := Lib.hid (al1 w9 (.cells #[.slice na nn nc] 28))
            have KK9 := Lib.hid (And.intro (keep4n (b9.nx A9.out) rfl KKB.out) (keep1n (b9.nx A9.out) rfl hk0))
            have HC9 := Lib.hid (HN2.out _ (b9.nx A9.out))
            have K9 : Hid ((w9.alloc (.cells #[.slice na nn nc] 28)).cell? ⟨w9.heap.size, 0, none⟩ = some (.slice na nn nc)) := Lib.hid (by simp [go_sem])
            have B9 := Lib.hid (BB.out.nx (b9.nx A9.out))
            have R9 := Lib.hid (RMsg.below A9.out (n + 1) hv9)
            clear k0 k1 k2 k3 l0 l2 l3 b9 hv9 HN1 HN2 hk0
            obtain ⟨⟨⟨k0, k1, k2⟩, k3⟩, hk0⟩ := KK9.out
            have l0 := block_lt_of_cell k0
            have l2 := block_lt_of_cell k2
            have l3 := block_lt_of_cell k3
            go_upto_region 10 with fail
            go_wp2_with fail
            refine HC9.out.mono ?_; rintro e w10 ⟨v10, rfl, hv10, b10⟩
            obtain ⟨ka, kn, kc, rfl⟩ := rmsg_slice hv10
            have hall : ∀ W : World, W = w10.alloc (.cells #[.slice ka kn kc] 28) → Below w4.heap.size w4 W ∧ (((W.cell? ⟨w.heap.size, 0, none⟩ = some (.slice S.A0 S.M.length S.c0) ∧ W.cell? ⟨w.heap.size, 1, none⟩ = some (.slice S.A1 S.E.length S.c1) ∧ W.cell? ⟨w.heap.size + 1, 0, none⟩ = some (.slice (some ⟨b0, off0, none⟩) x2.f.length cap2)) ∧ W.cell? ⟨b0, off0 + i * 3, none⟩ = some (.int .i64 no)) ∧ W.cell? ⟨w9.heap.size, 0, none⟩ = some (.slice na nn nc) ∧ W.cell? ⟨w10.heap.size, 0, none⟩ = some (.slice ka kn kc)) ∧ RMsg 10000 0 W (n + 1) [.slice na nn nc] zx ∧ RMsg 10000 0 W (n + 1) [.slice ka kn kc] zk := by
              rintro W rfl
              have bb := b10.nx (al1 w10 (.cells #[.slice ka kn kc] 28))
              exact ⟨B9.out.nx bb, ⟨keep4n bb rfl ⟨KK9.out.1.1, KK9.out.2⟩, keep1n bb rfl K9.out, by simp [go_sem]⟩, RMsg.below bb (n + 1) R9.out, RMsg.below (al1 _ _) (n + 1) hv10⟩
            go_upto_region 11 with fail
            have HALL := Lib.hid (hall _ rfl)
            clear hall k0 k1 k2 k3 l0 l2 l3 hk0 KK9 HC9 K9 B9 R9 A9 b10 hv10 BB KKB
            generalize w10.alloc (.cells #[.slice ka kn kc] 28) = W at *
            obtain ⟨bW, hs0, rx, rk⟩ := HALL.out
            have BW := Lib.hid bW
            have RX := Lib.hid rx
            have RK := Lib.hid rk
            have KW := Lib.hid hs0
            clear HALL bW rx rk
            obtain ⟨⟨⟨k0, k1, k2⟩, k3⟩, k9, k10⟩ := hs0
            have hs0 := KW.out
            have l0 := block_lt_of_cell k0
            have l2 := block_lt_of_cell k2
            have l3 := block_lt_of_cell k3
            have l9 := block_lt_of_cell k9
            have l10 := block_lt_of_cell k10
            have HGX : Hid (∀ w', Below W.heap.size W w' → _) := Lib.hid fun w' hb => get_out n no hno1 hno2 w' [.slice na nn nc] zx (RMsg.below hb (n + 1) RX.out)
            have HGK : Hid (∀ w', Below W.heap.size W w' → _) := Lib.hid fun w' hb => get_out n no hno1 hno2 w' [.slice ka kn kc] zk (RMsg.below hb (n + 1) RK.out)
            clear hno1 hno2
            go_cut [16, 17] from 78 to 88 (fun o p wc => GetOut n W no zx o p wc)
            case first =>
              have hk := hs0
              go_region_held3 (fun w' => ((w'.cell? ⟨w.heap.size, 0, none⟩ = some (.slice S.A0 S.M.length S.c0) ∧ w'.cell? ⟨w.heap.size, 1, none⟩ = some (.slice S.A1 S.E.length S.c1) ∧ w'.cell? ⟨w.heap.size + 1, 0, none⟩ = some (.slice (some ⟨b0, off0, none⟩) x2.f.length cap2)) ∧ w'.cell? ⟨b0, off0 + i * 3, none⟩ = some (.int .i64 no)) ∧ w'.cell? ⟨w9.heap.size, 0, none⟩ = some (.slice na nn nc) ∧ w'.cell? ⟨w10.heap.size, 0, none⟩ = some (.slice ka kn kc))
                (first
                  | exact hk
                  | exact keep6n (al1 _ _) rfl hk
                  | exact keep6n (al1 _ _).drew rfl hk
                  | exact keep6n ((Below.refl _ _).drew.alloc (Nat.le_refl _) _) rfl hk
                  | exact keep6n (((D1.out.setCell (p := ⟨W.heap.size, 0, none⟩) (Nat.le_refl _) _).setCell (p := ⟨W.heap.size, 1, none⟩) (Nat.le_refl _) _).setCell (p := ⟨W.heap.size, 2, none⟩) (Nat.le_refl _) _) rfl hs0
                  | (go_keep; done))
                (first
                  | (go_at_call 23; (with_reducible refine (HGX.out _ ?_).mono ?_); (exact (Below.refl _ _).drew); rintro e y1 ⟨k, f1, l1, c1, f2, l2, c2, rfl, r5, g1⟩; (have D1 := Lib.hid ((Below.refl W.heap.size W).drew.nx g1)); (have R5 := Lib.hid r5); clear hk; (have hk := keep6n D1.out rfl hs0); clear g1 r5)
                  | (go_at_call 23; (with_reducible refine (HGX.out _ ?_).mono ?_); (exact (Below.refl _ _).drew.alloc (Nat.le_refl _) _); rintro e y1 ⟨k, f1, l1, c1, f2, l2, c2, rfl, r5, g1⟩; (have D1 := Lib.hid (((Below.refl W.heap.size W).drew.alloc (Nat.le_refl _) _).nx g1)); (have R5 := Lib.hid r5); (obtain ⟨z0, z1, z2, z3, z4, z5⟩ := box_kept (w := W.drew) W.heap.size rfl g1); clear hk; (have hk := keep6n D1.out rfl hs0); clear g1 r5)
                  | (go_at_call 23; (with_reducible refine (HGX.out _ ?_).mono ?_); (exact (al1 W _).drew); rintro e y1 ⟨k, f1, l1, c1, f2, l2, c2, rfl, r5, g1⟩; (have D1 := Lib.hid ((al1 W _).drew.nx g1)); (have R5 := Lib.hid r5); (obtain ⟨z0, z1, z2, z3, z4, z5⟩ := box_kept (w := W) W.heap.size rfl (Below.trans (Below.refl _ _).drew g1)); clear hk; (have hk := keep6n D1.out rfl hs0); clear g1 r5))
              all_goals (go_wp2_with fail; go_meet)
              all_goals (first
                | exact getout_new D1.out R5.out
                | exact getout_old z0 z1 z2 (Nat.le_refl _) (by simp) D1.out R5.out)
            case rest =>
              obtain ⟨K16, q0, q1, q2, rfl, rfl, h16, bC, r16⟩ := hcut
              have KC := Lib.hid (keep6n bC.out rfl hs0)
              have BC := Lib.hid (BW.out.nx bC.out)
              have HGK2 : Hid (∀ w', Below wc.heap.size wc w' → _) := Lib.hid fun w' hb => HGK.out w' (bC.out.nx hb)
              have RX2 := Lib.hid (RMsg.below bC.out (n + 1) RX.out)
              have RK2 := Lib.hid (RMsg.below bC.out (n + 1) RK.out)
              clear k0 k1 k2 k3 k9 k10 l0 l2 l3 l9 l10 hs0 KW HGX HGK RX RK BW bC
              have hs0 := KC.out
              have hq0 := h16.out
              have B16 := Lib.hid (And.intro hs0 hq0)
              obtain ⟨⟨⟨k0, k1, k2⟩, k3⟩, k9, k10⟩ := hs0
              obtain ⟨q16a, q16b, q16c⟩ := hq0
              have hs0 := KC.out
              have l0 := block_lt_of_cell k0
              have l2 := block_lt_of_cell k2
              have l3 := block_lt_of_cell k3
              have l9 := block_lt_of_cell k9
              have l10 := block_lt_of_cell k10
              have l16 := block_lt_of_cell q16a
              go_upto_region 12 with fail
              go_cut [18, 19] from 89 to 99 (fun o p wd => GetOut n wc no zk o p wd)
              case first =>
                have hk := hs0
                go_region_held3 (fun w' => ((w'.cell? ⟨w.heap.size, 0, none⟩ = some (.slice S.A0 S.M.length S.c0) ∧ w'.cell? ⟨w.heap.size, 1, none⟩ = some (.slice S.A1 S.E.length S.c1) ∧ w'.cell? ⟨w.heap.size + 1, 0, none⟩ = some (.slice (some ⟨b0, off0, none⟩) x2.f.length cap2)) ∧ w'.cell? ⟨b0, off0 + i * 3, none⟩ = some (.int .i64 no)) ∧ w'.cell? ⟨w9.heap.size, 0, none⟩ = some (.slice na nn nc) ∧ w'.cell? ⟨w10.heap.size, 0, none⟩ = some (.slice ka kn kc))
                  (first
                    | exact hk
                    | exact keep6n (al1 _ _) rfl hk
                    | exact keep6n (al1 _ _).drew rfl hk
                    | exact keep6n ((Below.refl _ _).drew.alloc (Nat.le_refl _) _) rfl hk
                    | exact keep6n (((D1.out.setCell (p := ⟨wc.heap.size, 0, none⟩) (Nat.le_refl _) _).setCell (p := ⟨wc.heap.size, 1, none⟩) (Nat.le_refl _) _).setCell (p := ⟨wc.heap.size, 2, none⟩) (Nat.le_refl _) _) rfl hs0
                    | (go_keep; done))
                  (first
                    | (go_at_call 23; (with_reducible refine (HGK2.out _ ?_).mono ?_); (exact (Below.refl _ _).drew); rintro e y1 ⟨k, f1, l1, c1, f2, l2, c2, rfl, r5, g1⟩; (have D1 := Lib.hid ((Below.refl wc.heap.size wc).drew.nx g1)); (have R5 := Lib.hid r5); clear hk; (have hk := keep6n D1.out rfl hs0); clear g1 r5)
                    | (go_at_call 23; (with_reducible refine (HGK2.out _ ?_).mono ?_); (exact (Below.refl _ _).drew.alloc (Nat.le_refl _) _); rintro e y1 ⟨k, f1, l1, c1, f2, l2, c2, rfl, r5, g1⟩; (have D1 := Lib.hid (((Below.refl wc.heap.size wc).drew.alloc (Nat.le_refl _) _).nx g1)); (have R5 := Lib.hid r5); (obtain ⟨z0, z1, z2, z3, z4, z5⟩ := box_kept (w := wc.drew) wc.heap.size rfl g1); clear hk; (have hk := keep6n D1.out rfl hs0); clear g1 r5)
                    | (go_at_call 23; (with_reducible refine (HGK2.out _ ?_).mono ?_); (exact (al1 wc _).drew); rintro e y1 ⟨k, f1, l1, c1, f2, l2, c2, rfl, r5, g1⟩; (have D1 := Lib.hid ((al1 wc _).drew.nx g1)); (have R5 := Lib.hid r5); (obtain ⟨z0, z1, z2, z3, z4, z5⟩ := box_kept (w := wc) wc.heap.size rfl (Below.trans (Below.refl _ _).drew g1)); clear hk; (have hk := keep6n D1.out rfl hs0); clear g1 r5))
                all_goals (go_wp2_with fail; go_meet)
                all_goals (first
                  | exact getout_new D1.out R5.out
                  | exact getout_old z0 z1 z2 (Nat.le_refl _) (by simp) D1.out R5.out)
              case rest =>
                obtain ⟨K18, p0, p1, p2, rfl, rfl, -, bD, -⟩ := hcut
                have BD := Lib.hid (B4.out.nx (BC.out.nx bD.out))
                have hk9 := keep1n bD.out rfl k9
                have hk10 := keep1n bD.out rfl k10
                have hk16 := keep3n bD.out rfl ⟨q16a, q16b, q16c⟩
                have RX3 := Lib.hid (RMsg.below bD.out (n + 1) RX2.out)
                have RK3 := Lib.hid (RMsg.below bD.out (n + 1) RK2.out)
                have RS3 := Lib.hid (r16.out.below bD.out)
                clear k0 k1 k2 k3 k9 k10 l0 l2 l3 l9 l10 l16 q16a q16b q16c hs0 KC BC HGK2 RX2 RK2 bD h16 r16 B16
                obtain ⟨q16a, q16b, q16c⟩ := hk16
                have l9 := block_lt_of_cell hk9
                have l10 := block_lt_of_cell hk10
                have l16 := block_lt_of_cell q16a
                obtain ⟨hl1, hl2', hl3⟩ := HLL.out
                clear HLL
                generalize hasSlot zk no = still at *
                subst hl1
                have HSM := Lib.hid (fun w' cs ds z h k => by have h := ref_same 10000 0 (by unfold maxLen; omega) (n + 1) w' cs ds z z h k; rw [(same_iff _ _).2 rfl] at h; exact h)
                cases hh : hasSlot zx no with
                | false =>
                  have e := hl2' hh
                  subst e
                  clear hl2' hl3 hh
                  go_wp2_with fail
                  refine (HSM.out _ _ _ zk RK3.out RX3.out).mono ?_; rintro e wE ⟨rfl, bE⟩
                  go_wp2_with fail
                  exact ⟨rfl, _, results_tmp (t := 8) rfl _ _ _, rfl, BD.out.nx bE⟩
                | true =>
                  have e := hl3 hh
                  have HST := Lib.hid (fun w' h k => value_set 10000 n (by omega) w' [.slice ka kn kc] [q0, q1, q2] zk (getSlot zx no) h k HLN.out)
                  rw [e] at HST
                  clear hl2' hl3 hh e
                  have hs0 := And.intro hk9 (And.intro hk10 (And.intro q16a (And.intro q16b q16c)))
                  go_upto_region 16 with fail
                  have hk := hs0
                  go_region_held3 (fun w' => w'.cell? ⟨w9.heap.size, 0, none⟩ = some (.slice na nn nc) ∧ w'.cell? ⟨w10.heap.size, 0, none⟩ = some (.slice ka kn kc) ∧ w'.cell? ⟨K16, 0, none⟩ = some q0 ∧ w'.cell? ⟨K16, 1, none⟩ = some q1 ∧ w'.cell? ⟨K16, 2, none⟩ = some q2)
                    (first | exact hk | (go_keep; done))
                    (first
                      | (go_at_call 26; (with_reducible refine (HST.out _ ?_ ?_).mono ?_); (exact RMsg.below (Below.refl _ _).drew (n + 1) RK3.out); (exact RS3.out.below (Below.refl _ _).drew); rintro e y1 ⟨v5, rfl, r5, g1⟩; (obtain ⟨sa, sn, sc, rfl⟩ := rmsg_slice r5); (have D1 := Lib.hid ((Below.refl wc.heap.size wc).drew.nx g1)); (have R5 := Lib.hid (RMsg.keep (Nat.zero_le _) (Keeps.refl _ _) _ _ (Nat.le_refl _) r5)); clear hk; (have hk := keep5n D1.out rfl hs0); clear g1 r5)
                      | (go_at_call 14; (with_reducible refine (HSM.out _ _ _ zx ?_ ?_).mono ?_); (exact R5.out); (exact RMsg.below D1.out (n + 1) RX3.out); rintro e y2 ⟨rfl, g2⟩; (have D2 := Lib.hid (D1.out.nx g2)); clear hk; (have hk := keep5n D2.out rfl hs0); clear g2))
                  all_goals (
                    go_wp2
                    exact ⟨rfl, _, results_tmp (t := 8) rfl _ _ _, rfl, BD.out.nx D2.out⟩)

/-! THE ROW -/
set_option maxRecDepth 100000 in
theorem lifted (os : Os) (started : os.Started) (H : Type) (enc : TypeId × Value → H) :
    ReturnsInHanded {} Tryz.checked os 8 .any (Rows.typedLessSpec.pre6 enc Tryz.prog Tryz.f8 Rows.typedLessRow.domain false) (Rows.typedLessSpec.post enc Tryz.prog Tryz.f8 false true false false) := by
  refine returnsInHanded_of_change_sized (C := Tryz.checked) own started (by kernel_rfl) Tryz.func8
    (ChangeSpec.witness6 (enc := enc) (C := Tryz.checked) false ⟨#[], #[.agg #[.slice none 0 0, .slice none 0 0], .int .i64 0, .agg #[.slice none 0 0], .int .i64 0], []⟩ 8 (by kernel_rfl) (by kernel_rfl) (by kernel_rfl) (by kernel_rfl)) ?_
  intro W base args ds gs before hval0 hW hcnd hsz0 _
  have hsz : (DataW.weightsEach Tryz.prog (Tryz.f8.params.toList ++ Rows.typedLessSpec.plain.varTypes Tryz.prog) (ds ++ gs)).all (· ≤ reachBytes) = true := hsz0
  have hval : ∀ (j : Nat) t v, Tryz.f8.params[j]? = some t → args[j]? = some v → Value.okWide Tryz.prog W .any base t v := hval0
  have hW' := hW
  obtain ⟨p, q, hA0, hV, rfl, hfz, hnd⟩ := hW
  have hA : DataW.TrodAll enc Tryz.prog W 0 (fun _ => true) true Tryz.f8.params.toList args.toList ds p := hA0
  rw [Tryz.params8] at hA hval hsz
  obtain ⟨v0, vs0, d0, ds0, p0, q0, hargs, rfl, rfl, h0, r0⟩ := trodAll_cons hA
  obtain ⟨v1, vs1, d1, ds1, p1, q1, rfl, rfl, rfl, h1, r1⟩ := trodAll_cons r0
  obtain ⟨v2, vs2, d2, ds2, p2, q2, rfl, rfl, rfl, h2, r2⟩ := trodAll_cons r1
  obtain ⟨v3, vs3, d3, ds3, p3, q3, rfl, rfl, rfl, h3, r3⟩ := trodAll_cons r2
  obtain ⟨rfl, rfl, rfl⟩ := trodAll_nil r3
  obtain rfl : args = #[v0, v1, v2, v3] := by cases args; simp_all
  obtain ⟨rfl, rfl⟩ := trodVars_none hV
  have k0 := h0
  have lt0 : ∀ x ∈ p0, x.block < W.heap.size := by obtain ⟨m, hm⟩ := k0; exact DataW.trod_lt m _ _ _ hm
  have hw0 : ∀ z ∈ d0.weights Tryz.prog 25, z ≤ reachBytes := fun z hz => by simpa using List.all_eq_true.1 hsz z (DataW.weights_mem_each (j := 0) rfl rfl z hz)
  obtain ⟨c0, rfl, -⟩ := okWide_struct Tryz.underlying25 (hval 0 25 v0 rfl rfl)
  obtain ⟨fuel0, hf0⟩ := h0
  obtain ⟨A0a, c0a, M0, A0b, c0b, E0, e0, g0⟩ := open_schema hf0 hw0
  have e0' : c0 = #[.slice A0a M0.length c0a, .slice A0b E0.length c0b] := by apply Array.ext'; simpa [Value.cells] using e0
  subst e0'
  obtain ⟨a1, rfl, rfl, rfl, w1⟩ := open_int Tryz.underlying3 (hval 1 3 v1 rfl rfl) h1
  have k2 := h2
  have lt2 : ∀ x ∈ p2, x.block < W.heap.size := by obtain ⟨m, hm⟩ := k2; exact DataW.trod_lt m _ _ _ hm
  have hw2 : ∀ z ∈ d2.weights Tryz.prog 28, z ≤ reachBytes := fun z hz => by simpa using List.all_eq_true.1 hsz z (DataW.weights_mem_each (j := 2) rfl rfl z hz)
  obtain ⟨c2, rfl, -⟩ := okWide_struct Tryz.underlying28 (hval 2 28 v2 rfl rfl)
  obtain ⟨fuel2, hf2⟩ := h2
  obtain ⟨x2, g2⟩ : ∃ x, RMsg Go.Proofs.YthikfifoomfjgaaGreat.Great 0 W fuel2 c2.toList x := open_msg fuel2 _ _ hf2 hw2
  obtain ⟨a3, rfl, rfl, rfl, w3⟩ := open_int Tryz.underlying3 (hval 3 3 v3 rfl rfl) h3
  clear hA0 hval0 hsz0 hsz
  refine (walk (fuel2) W _ _ M0 _ _ E0 g0 a1 (PA.int_wf w1) c2.toList x2 (RMsg.keep (Nat.le_refl _) (Keeps.refl _ _) _ _ (by omega) g2) a3 (PA.int_wf w3)).mono fun e W' ⟨he, bel⟩ => ?_
  subst he
  exact ⟨_, rfl, _, _, _, [], _, [], hW', trodAll_mk1 (shut_bool Tryz.underlying4 _), (trodAll_cons_mk (Below.trod laidOut (by kernel_rfl) (of_decide_eq_true (by kernel_rfl)) k0 bel lt0) (trodAll_cons_mk (shut_int Tryz.underlying3 w1) (trodAll_cons_mk (Below.trod laidOut (by kernel_rfl) (of_decide_eq_true (by kernel_rfl)) k2 bel lt2) (trodAll_cons_mk (shut_int Tryz.underlying3 w3) trodAll_mk0)))), rfl, bel.frame _, fun h => by cases h⟩

theorem over : Rows.typedLessRow.holds Tryz.pinned (OpenSpec.ofChange Rows.typedLessSpec) :=
  OpenClaim.holds_of_wide 8 Tryz.f8 rfl rfl rfl rfl rfl rfl rfl ⟨rfl, rfl, rfl, rfl, rfl⟩ rfl rfl rfl rfl rfl (by kernel_rfl) Tryz.func8 (by kernel_rfl)
    (of_decide_eq_true (by kernel_rfl)) (by unfold Func.isWrapper; first | (rw [if_pos (by decide +kernel)]; kernel_rfl) | (rw [if_neg (by decide +kernel)]; exact ⟨rfl, rfl⟩))
    (fun os started H enc _ => lifted os started H enc)

/-- THE STATEMENT -/
theorem proved : Rows.TypedLessSaid := over
#print axioms proved
end Go.Proofs.YthikfifoomfjgaaGreat.typedLess
