/- The statement TypedVal: for every schema, field number and value that are not too great, the value is of the field's kind just if the message that has it alone is of its message, where that is no map; no condition. -/
import Derived.Test.YthikfifoomfjgaaGreatRows
import Derived.WalkKit
import Derived.ProofKit
import Derived.OpenShut
import Derived.ShutString
import Derived.ChangeOld
import Derived.Below
import Derived.Deep.RegionHeld3
import Derived.Deep.DeepCutAuto
import Derived.WalkSpells
import Derived.SizedLaws
import Derived.ChangeSlices
import Derived.Test.YthikfifoomfjgaaGreatPlainP10
namespace Go.Proofs.YthikfifoomfjgaaGreat.typedVal
open Go.ChangeShapes Go.WideShapes Go.ChangeAt Go.RowKit Go.Tr Go.Proofs.YthikfifoomfjgaaGreat Go.Proofs.YthikfifoomfjgaaGreat.PA Go.Proofs.YthikfifoomfjgaaGreatW.PrintWords Go.Proofs.YthikfifoomfjgaaGreatW.PrintLast Go.Proofs.YthikfifoomfjgaaGreatW.PrintMore
set_option linter.unusedVariables false
set_option linter.unusedSimpArgs false

theorem own : ownKnob Tryz.prog.godebug = none := by kernel_rfl
theorem laidOut : laidOutB Tryz.prog = true := by kernel_rfl
theorem deep_one (no : Int) (v : Val) : decide (((Msg.mk [⟨no, [], [v]⟩]).deep : Int) ≤ 64) = lowV v := by
  have hs : (Msg.mk [⟨no, [], [v]⟩]).subs = v.m := by simp [Msg.subs, Msg.vals, Msg.f]
  have hd : (Msg.mk [⟨no, [], [v]⟩]).deep = most v.m + 1 := by rw [Msg.deep_eq, hs]; rfl
  unfold lowV
  rw [hd, Bool.eq_iff_iff, decide_eq_true_eq, all_not_any (fun y : Msg => decide ((y.deep : Int) ≤ 63)) v.m, List.all_eq_true]
  constructor
  · intro h y hy
    have := foldl_max_mem (v.m.map Msg.deep) y.deep (List.mem_map_of_mem hy)
    unfold most at h
    simp only [decide_eq_true_eq]
    omega
  · intro h
    have : most v.m ≤ 63 := most_le fun y hy => by
      have := h y hy
      simp only [decide_eq_true_eq] at this
      omega
    omega
theorem law_none {S : Sch} {m no : Int} (h : S.fl m no = none) (n : Nat) (v : Val) : mayOk S (n + 1) m (.mk [⟨no, [], [v]⟩]) = false := by
  unfold mayOk
  rw [msgOk, show runOk S (msgOk S n) m (Msg.mk [⟨no, [], [v]⟩]).f [] [] = false by rw [show (Msg.mk [⟨no, [], [v]⟩]).f = [⟨no, [], [v]⟩] from rfl, runOk, h]]
  simp
theorem law_some {S : Sch} (hF : S.Ok) {m no : Int} {f : S47} (h : S.fl m no = some f) (hk : f.f5 = -1) (n : Nat) (v : Val) : mayOk S (n + 1) m (.mk [⟨no, [], [v]⟩]) = vOk S n f.f2 f.f3 v := by
  obtain ⟨-, -, hm1, hm2⟩ := fl_ok hF h
  have h1 : slotOk (msgOk S n) f ⟨no, [], [v]⟩ = valOk (msgOk S n) f.f2 f.f3 v := by
    unfold slotOk
    rw [if_pos hk]
    simp
  have h2 : msgOk S (n + 1) m (.mk [⟨no, [], [v]⟩]) = valOk (msgOk S n) f.f2 f.f3 v := by
    rw [msgOk, show (Msg.mk [⟨no, [], [v]⟩]).f = [⟨no, [], [v]⟩] from rfl, runOk, h]
    simp [h1, runOk, hm1, hm2]
  unfold mayOk vOk
  rw [h2, deep_one]
theorem keep13 {w w' : World} {p0 p1 p2 p3 p4 p5 p6 p7 : Addr} {v0 v1 v2 v3 v4 v5 v6 v7 : Value} {K : Nat} (b : Below K w w') (hK : K = w.heap.size) (h : w.cell? p0 = some v0 ∧ w.cell? p1 = some v1 ∧ w.cell? p2 = some v2 ∧ w.cell? p3 = some v3 ∧ w.cell? p4 = some v4 ∧ w.cell? p5 = some v5 ∧ w.cell? p6 = some v6 ∧ w.cell? p7 = some v7) :
    w'.cell? p0 = some v0 ∧ w'.cell? p1 = some v1 ∧ w'.cell? p2 = some v2 ∧ w'.cell? p3 = some v3 ∧ w'.cell? p4 = some v4 ∧ w'.cell? p5 = some v5 ∧ w'.cell? p6 = some v6 ∧ w'.cell? p7 = some v7 := by
  obtain ⟨h0, h1, h2, h3, h4⟩ := h
  have a := keep4w b hK ⟨h0, h1, h2, h3⟩
  exact ⟨a.1, a.2.1, a.2.2.1, a.2.2.2, keep4w b hK h4⟩
/-! THE WALK -/
set_option maxHeartbeats 8000000 in
set_option maxRecDepth 100000 in
theorem walk (n : Nat) (w : World) (A0a : Option Addr) (c0a : Nat) (M0 : List S58) (A0b : Option Addr) (c0b : Nat) (E0 : List S79) (h0 : OkSchema w A0a c0a M0 A0b c0b E0) (a1 : Int) (w1 : -9223372036854775808 ≤ a1 ∧ a1 ≤ 9223372036854775807) (a2 : Int) (w2 : -9223372036854775808 ≤ a2 ∧ a2 ≤ 9223372036854775807) (cs3 : List Value) (x3 : Val) (h3 : RVal Go.Proofs.YthikfifoomfjgaaGreat.Great 0 w (RMsg Go.Proofs.YthikfifoomfjgaaGreat.Great 0 w n) cs3 x3) :
    Calls Tryz.prog 5 #[.agg #[.slice A0a M0.length c0a, .slice A0b E0.length c0b], .int .i64 a1, .int .i64 a2, .agg cs3.toArray] w fun e w' => e = .returned (.bool true) ∧ Below w.heap.size w w' := by
  have hm1 := w1
  have hm2 := w2
  clear w1 w2
  obtain ⟨HAT, HOK, hfs⟩ := Sch.of_ok h0
  obtain ⟨S, hS⟩ : ∃ S : Sch, S = ⟨M0, E0, A0a, A0b, c0a, c0b⟩ := ⟨_, rfl⟩
  have hcells : (#[.slice A0a M0.length c0a, .slice A0b E0.length c0b] : Array Value) = #[.slice S.A0 S.M.length S.c0, .slice S.A1 S.E.length S.c1] := by rw [hS]
  rw [hcells]
  have HFS : Hid (FewP S.M S.E → okSchema S.M S.E = true) := Lib.hid (by rw [hS]; exact hfs)
  rw [← hS] at HAT HOK
  have HA := Lib.hid fun w' => awake10 w'
  have HSA := Lib.hid HAT
  have HFO := Lib.hid HOK
  have H3 := Lib.hid h3
  obtain ⟨c, rfl, hx1, hx2, hx3, r1⟩ := h3
  obtain ⟨p4, pc4, rfl, -⟩ := r1
  clear HAT HOK hfs h0 hcells hS
  go_enter Tryz.func5, Tryz.ntmps5
  go_wp2_with fail
  refine (HA.out _).mono ?_; rintro e w1 ⟨rfl, b1⟩
  have kk : w1.cell? ⟨w.heap.size, 0, none⟩ = some (.slice S.A0 S.M.length S.c0) ∧ w1.cell? ⟨w.heap.size, 1, none⟩ = some (.slice S.A1 S.E.length S.c1) ∧ w1.cell? ⟨w.heap.size + 1, 0, none⟩ = some (.int .i64 x3.n) ∧ w1.cell? ⟨w.heap.size + 1, 1, none⟩ = some (.string x3.s) ∧ w1.cell? ⟨w.heap.size + 1, 2, none⟩ = some (.slice p4 x3.m.length pc4) ∧ w1.cell? ⟨w.heap.size + 1, 2, none⟩ = some (.slice p4 x3.m.length pc4) :=
    keep6 b1 rfl (by refine ⟨?_, ?_, ?_, ?_, ?_, ?_⟩ <;> simp [go_sem])
  have B1 := Lib.hid ((al2 _ _ _).nx b1)
  clear b1
  have KK := Lib.hid kk
  obtain ⟨k0, k1, k2, k3, k4, -⟩ := kk
  have l0 := block_lt_of_cell k0
  have l2 := block_lt_of_cell k2
  go_upto_region 3 with fail
  obtain ⟨g0, g1, g2, -⟩ := four10 w1 (.cells #[.int .i64 x3.n, .string x3.s, .slice p4 x3.m.length pc4] 39) (.cells #[.int .i64 a2, .slice none 0 0, .slice (some ⟨w1.heap.size, 0, none⟩) 1 1] 35) (.cells #[.slice (some ⟨w1.heap.size + 1, 0, none⟩) 1 1] 28) (.cells #[] 28)
  have A3 := (al2 w1 (.cells #[.int .i64 x3.n, .string x3.s, .slice p4 x3.m.length pc4] 39) (.cells #[.int .i64 a2, .slice none 0 0, .slice (some ⟨w1.heap.size, 0, none⟩) 1 1] 35)).nx (al1 _ (.cells #[.slice (some ⟨w1.heap.size + 1, 0, none⟩) 1 1] 28))
  have hall : ∀ W : World, W = ((w1.alloc (.cells #[.int .i64 x3.n, .string x3.s, .slice p4 x3.m.length pc4] 39)).alloc (.cells #[.int .i64 a2, .slice none 0 0, .slice (some ⟨w1.heap.size, 0, none⟩) 1 1] 35)).alloc (.cells #[.slice (some ⟨w1.heap.size + 1, 0, none⟩) 1 1] 28) → Below w1.heap.size w1 W ∧ RMsg Great 0 W (n + 1) [.slice (some ⟨w1.heap.size + 1, 0, none⟩) 1 1] (.mk [⟨a2, [], [x3]⟩]) ∧ W.cell? ⟨w.heap.size, 0, none⟩ = some (.slice S.A0 S.M.length S.c0) ∧ W.cell? ⟨w.heap.size, 1, none⟩ = some (.slice S.A1 S.E.length S.c1) ∧ W.cell? ⟨w.heap.size + 1, 0, none⟩ = some (.int .i64 x3.n) ∧ W.cell? ⟨w.heap.size + 1, 1, none⟩ = some (.string x3.s) ∧ W.cell? ⟨w.heap.size + 1, 2, none⟩ = some (.slice p4 x3.m.length pc4) ∧ W.cell? ⟨w1.heap.size + 1 + 1, 0, none⟩ = some (.slice (some ⟨w1.heap.size + 1, 0, none⟩) 1 1) := by
    rintro W rfl
    have kx := al1 (((w1.alloc (.cells #[.int .i64 x3.n, .string x3.s, .slice p4 x3.m.length pc4] 39)).alloc (.cells #[.int .i64 a2, .slice none 0 0, .slice (some ⟨w1.heap.size, 0, none⟩) 1 1] 35)).alloc (.cells #[.slice (some ⟨w1.heap.size + 1, 0, none⟩) 1 1] 28)) (.cells #[] 28)
    have h0 := (kx.block w1.heap.size (by simp; omega)).symm.trans g0
    have h1 := (kx.block (w1.heap.size + 1) (by simp)).symm.trans g1
    have h2 := (kx.block (w1.heap.size + 1 + 1) (by simp)).symm.trans g2
    have kk := keep6 A3 rfl KK.out
    refine ⟨A3, msg_one (t := 35) (by decide) (Nat.zero_le _) h1 ⟨_, _, rfl, hm2.1, hm2.2, rowNil _ _ _ _ _, val_row (by decide) h0 (H3.out.below (B1.out.nx A3))⟩, kk.1, kk.2.1, kk.2.2.1, kk.2.2.2.1, kk.2.2.2.2.1, cell_of_row _ _ 0 _ _ (0, 0) h2⟩
  have HALL := Lib.hid (hall _ rfl)
  clear hall g0 g1 g2 A3 k0 k1 k2 k3 k4 l0 l2 KK
  generalize ((w1.alloc (.cells #[.int .i64 x3.n, .string x3.s, .slice p4 x3.m.length pc4] 39)).alloc (.cells #[.int .i64 a2, .slice none 0 0, .slice (some ⟨w1.heap.size, 0, none⟩) 1 1] 35)).alloc (.cells #[.slice (some ⟨w1.heap.size + 1, 0, none⟩) 1 1] 28) = W3 at *
  obtain ⟨A3, hX, hc⟩ := HALL.out
  have HX := Lib.hid hX
  have B3 := Lib.hid (B1.out.nx A3)
  have HC3 := Lib.hid hc
  clear A3 hX HALL
  obtain ⟨k0, k1, k2, k3, k4, k5⟩ := hc
  have l0 := block_lt_of_cell k0
  have l2 := block_lt_of_cell k2
  have l5 := block_lt_of_cell k5
  have hfew := few10 S Great (n + 1) (by decide) W3 (HSA.out.below B3.out) [_] _ HX.out
  have HFEW := Lib.hid hfew
  have HBY := Lib.hid fun w' (hb : Below W3.heap.size W3 w') => S.by_ref w' (HSA.out.below (B3.out.nx hb)) a1 a2
  clear hfew
  unfold Sch.cells at HFEW HBY
  go_wp2_with fail
  refine HFEW.out.mono ?_; rintro e w4 ⟨⟨b, rfl, hb⟩, b4⟩
  have HC4 := Lib.hid (keep6 b4 rfl HC3.out)
  have B4 := Lib.hid b4
  clear b4 HFEW k0 k1 k2 k3 k4 k5 l0 l2 l5
  obtain ⟨k0, k1, k2, k3, k4, k5⟩ := HC4.out
  have l0 := block_lt_of_cell k0
  have l2 := block_lt_of_cell k2
  have l5 := block_lt_of_cell k5
  go_wp2_with fail
  refine (HBY.out _ B4.out).mono ?_; rintro e w5 ⟨⟨r, hr, rfl⟩, b5⟩
  have HC5 := Lib.hid (keep6 b5 rfl HC4.out)
  have B5 := Lib.hid (B4.out.nx b5)
  clear b5 HBY k0 k1 k2 k3 k4 k5 l0 l2 l5
  obtain ⟨k0, k1, k2, k3, k4, k5⟩ := HC5.out
  have l0 := block_lt_of_cell k0
  have l2 := block_lt_of_cell k2
  have l5 := block_lt_of_cell k5
  cases b with
  | false =>
    go_wp2_with (with_reducible refine wpList_store_new rfl (.tmp 12) (.tmp 29) rfl rfl rfl (by kernel_rfl) (by simp) (by simp [Value.oneCell']) ?_)
    exact ⟨rfl, _, results_tmp (t := 8) rfl _ _ _, rfl, B3.out.nx (B5.out.nx (al1 _ _))⟩
  | true =>
    obtain ⟨hfp, hlt⟩ := hb (by first | rfl | trivial)
    have hok := HFS.out hfp
    have hv : x3 ∈ (Msg.mk [⟨a2, [], [x3]⟩]).vals := by simp [Msg.vals, Msg.f]
    have HM := Lib.hid fun w' (hb : Below W3.heap.size W3 w') => typed_may S HFO.out hok 10000 (n + 1) (by omega) w' (HSA.out.below (B3.out.nx hb)) a1 _ _ (RMsg.shrink (L' := 10000) (n + 1) (RMsg.below hb (n + 1) HX.out) (by have := hlt.1; omega))
    have HV := Lib.hid fun w' kind ref (hb : Below W3.heap.size W3 w') => typed_val S HFO.out hok 10000 n (by omega) w' (HSA.out.below (B3.out.nx hb)) kind ref _ x3 ((H3.out.shrinkIn (L' := 10000) hv (by have := hlt.1; omega)).below (B3.out.nx hb))
    unfold Sch.cells at HM HV
    clear hb hfp hlt hok hv HX H3 HFS
    cases hfl : S.fl a1 a2 with
    | none =>
      have HQ := Lib.hid (law_none hfl n x3)
      rw [hfl] at hr
      subst hr
      clear hfl
      have hq := HQ.out
      rw [hq] at HM
      clear hq HQ
      have A12 := Lib.hid (al1 w5 (.cells #[.int .i64 0, .string ⟨#[]⟩, .int .i64 0, .int .i64 0, .bool false, .int .i64 0, .int .i64 0] 47))
      go_wp2_with (first
        | (with_reducible refine wpList_store_new rfl (.tmp 12) (.tmp 29) rfl rfl rfl (by kernel_rfl) (by simp) (by simp [Value.oneCell']) ?_)
        | (go_at_call 16; (with_reducible refine (HM.out _ ?_).mono ?_); (exact B5.out.nx A12.out); rintro e w6 ⟨rfl, b6⟩))
      exact ⟨rfl, _, results_tmp (t := 8) rfl _ _ _, rfl, B3.out.nx (B5.out.nx (A12.out.nx b6))⟩
    | some f =>
      have hr' : r = (f.f0, f.f1, f.f2, f.f3, f.f4, f.f5, f.f6, true) := by rw [hr, hfl]; rfl
      subst hr'
      dsimp only
      clear hr
      have A12 := Lib.hid (al1 w5 (.cells #[.int .i64 f.f0, .string f.f1, .int .i64 f.f2, .int .i64 f.f3, .bool f.f4, .int .i64 f.f5, .int .i64 f.f6] 47))
      by_cases hk : f.f5 = -1
      · have HQ := Lib.hid (law_some HFO.out hfl hk n x3)
        have dk : ((f.f5 : Int) != -1) = false := by simpa using hk
        have hq := HQ.out
        rw [hq] at HM
        have HV2 := Lib.hid fun w' hb => HV.out w' f.f2 f.f3 hb
        clear hq HQ hfl hk HV
        generalize vOk S n f.f2 f.f3 x3 = q at *
        have hqq : (q == q) = true := by simp
        go_upto_region 7 with (with_reducible refine wpList_store_new rfl (.tmp 12) (.tmp 29) rfl rfl rfl (by kernel_rfl) (by simp) (by simp [Value.oneCell']) ?_)
        have hs0 : (w5.alloc (.cells #[.int .i64 f.f0, .string f.f1, .int .i64 f.f2, .int .i64 f.f3, .bool f.f4, .int .i64 f.f5, .int .i64 f.f6] 47)).cell? ⟨w.heap.size, 0, none⟩ = some (.slice S.A0 S.M.length S.c0) ∧ (w5.alloc (.cells #[.int .i64 f.f0, .string f.f1, .int .i64 f.f2, .int .i64 f.f3, .bool f.f4, .int .i64 f.f5, .int .i64 f.f6] 47)).cell? ⟨w.heap.size, 1, none⟩ = some (.slice S.A1 S.E.length S.c1) ∧ (w5.alloc (.cells #[.int .i64 f.f0, .string f.f1, .int .i64 f.f2, .int .i64 f.f3, .bool f.f4, .int .i64 f.f5, .int .i64 f.f6] 47)).cell? ⟨w.heap.size + 1, 0, none⟩ = some (.int .i64 x3.n) ∧ (w5.alloc (.cells #[.int .i64 f.f0, .string f.f1, .int .i64 f.f2, .int .i64 f.f3, .bool f.f4, .int .i64 f.f5, .int .i64 f.f6] 47)).cell? ⟨w.heap.size + 1, 1, none⟩ = some (.string x3.s) ∧ (w5.alloc (.cells #[.int .i64 f.f0, .string f.f1, .int .i64 f.f2, .int .i64 f.f3, .bool f.f4, .int .i64 f.f5, .int .i64 f.f6] 47)).cell? ⟨w.heap.size + 1, 2, none⟩ = some (.slice p4 x3.m.length pc4) ∧ (w5.alloc (.cells #[.int .i64 f.f0, .string f.f1, .int .i64 f.f2, .int .i64 f.f3, .bool f.f4, .int .i64 f.f5, .int .i64 f.f6] 47)).cell? ⟨w1.heap.size + 1 + 1, 0, none⟩ = some (.slice (some ⟨w1.heap.size + 1, 0, none⟩) 1 1) ∧ (w5.alloc (.cells #[.int .i64 f.f0, .string f.f1, .int .i64 f.f2, .int .i64 f.f3, .bool f.f4, .int .i64 f.f5, .int .i64 f.f6] 47)).cell? ⟨w5.heap.size, 2, none⟩ = some (.int .i64 f.f2) ∧ (w5.alloc (.cells #[.int .i64 f.f0, .string f.f1, .int .i64 f.f2, .int .i64 f.f3, .bool f.f4, .int .i64 f.f5, .int .i64 f.f6] 47)).cell? ⟨w5.heap.size, 3, none⟩ = some (.int .i64 f.f3) := by
          have h := keep6 A12.out rfl HC5.out
          exact ⟨h.1, h.2.1, h.2.2.1, h.2.2.2.1, h.2.2.2.2.1, h.2.2.2.2.2, by simp [go_sem], by simp [go_sem]⟩
        generalize w5.alloc (.cells #[.int .i64 f.f0, .string f.f1, .int .i64 f.f2, .int .i64 f.f3, .bool f.f4, .int .i64 f.f5, .int .i64 f.f6] 47) = w6 at *
        have B6 := Lib.hid (B5.out.nx A12.out)
        clear k0 k1 k2 k3 k4 k5 l0 l2 l5
        obtain ⟨k0, k1, k2, k3, k4, k5, k6, k7⟩ := hs0
        have hs0 := And.intro k0 (And.intro k1 (And.intro k2 (And.intro k3 (And.intro k4 (And.intro k5 (And.intro k6 k7))))))
        have hk := hs0
        go_region_held3 (fun w' => w'.cell? ⟨w.heap.size, 0, none⟩ = some (.slice S.A0 S.M.length S.c0) ∧ w'.cell? ⟨w.heap.size, 1, none⟩ = some (.slice S.A1 S.E.length S.c1) ∧ w'.cell? ⟨w.heap.size + 1, 0, none⟩ = some (.int .i64 x3.n) ∧ w'.cell? ⟨w.heap.size + 1, 1, none⟩ = some (.string x3.s) ∧ w'.cell? ⟨w.heap.size + 1, 2, none⟩ = some (.slice p4 x3.m.length pc4) ∧ w'.cell? ⟨w1.heap.size + 1 + 1, 0, none⟩ = some (.slice (some ⟨w1.heap.size + 1, 0, none⟩) 1 1) ∧ w'.cell? ⟨w5.heap.size, 2, none⟩ = some (.int .i64 f.f2) ∧ w'.cell? ⟨w5.heap.size, 3, none⟩ = some (.int .i64 f.f3))
          (first | exact hk | (go_keep; done))
          (first
            | (go_at_call 16; (with_reducible refine (HM.out _ ?_).mono ?_); (exact B6.out.drew); rintro e y1 ⟨rfl, g1⟩; (have D1 := Lib.hid ((Below.refl w6.heap.size w6).drew.nx g1)); clear hk; (have hk := keep13 D1.out rfl hs0); clear g1)
            | (go_at_call 20; (with_reducible refine (HV2.out _ ?_).mono ?_); (exact B6.out.nx D1.out); rintro e y2 ⟨rfl, g2⟩; (have D2 := Lib.hid (D1.out.nx g2)); clear hk; (have hk := keep13 D2.out rfl hs0); clear g2))
        all_goals (
          go_wp2
          exact ⟨rfl, _, results_tmp (t := 8) rfl _ _ _, rfl, B3.out.nx (B6.out.nx D2.out)⟩)
      · have dk : ((f.f5 : Int) != -1) = true := by simpa using hk
        clear hfl hk HV HM
        go_wp2_with (with_reducible refine wpList_store_new rfl (.tmp 12) (.tmp 29) rfl rfl rfl (by kernel_rfl) (by simp) (by simp [Value.oneCell']) ?_)
        exact ⟨rfl, _, results_tmp (t := 8) rfl _ _ _, rfl, B3.out.nx (B5.out.nx A12.out)⟩

/-! THE ROW -/
set_option maxRecDepth 100000 in
theorem lifted (os : Os) (started : os.Started) (H : Type) (enc : TypeId × Value → H) :
    ReturnsInHanded {} Tryz.checked os 5 .any (Rows.typedValSpec.pre6 enc Tryz.prog Tryz.f5 Rows.typedValRow.domain false) (Rows.typedValSpec.post enc Tryz.prog Tryz.f5 false true false false) := by
  refine returnsInHanded_of_change_sized (C := Tryz.checked) own started (by kernel_rfl) Tryz.func5
    (ChangeSpec.witness6 (enc := enc) (C := Tryz.checked) false ⟨#[], #[.agg #[.slice none 0 0, .slice none 0 0], .int .i64 0, .int .i64 0, .agg #[.int .i64 0, .string ByteArray.empty, .slice none 0 0]], []⟩ 8 (by kernel_rfl) (by kernel_rfl) (by kernel_rfl) (by kernel_rfl)) ?_
  intro W base args ds gs before hval0 hW hcnd hsz0 _
  have hsz : (DataW.weightsEach Tryz.prog (Tryz.f5.params.toList ++ Rows.typedValSpec.plain.varTypes Tryz.prog) (ds ++ gs)).all (· ≤ reachBytes) = true := hsz0
  have hval : ∀ (j : Nat) t v, Tryz.f5.params[j]? = some t → args[j]? = some v → Value.okWide Tryz.prog W .any base t v := hval0
  have hW' := hW
  obtain ⟨p, q, hA0, hV, rfl, hfz, hnd⟩ := hW
  have hA : DataW.TrodAll enc Tryz.prog W 0 (fun _ => true) true Tryz.f5.params.toList args.toList ds p := hA0
  rw [Tryz.params5] at hA hval hsz
  obtain ⟨v0, vs0, d0, ds0, p0, q0, hargs, rfl, rfl, h0, r0⟩ := trodAll_cons hA
  obtain ⟨v1, vs1, d1, ds1, p1, q1, rfl, rfl, rfl, h1, r1⟩ := trodAll_cons r0
  obtain ⟨v2, vs2, d2, ds2, p2, q2, rfl, rfl, rfl, h2, r2⟩ := trodAll_cons r1
  obtain ⟨v3, vs3, d3, ds3, p3, q3, rfl, rfl, rfl, h3, r3⟩ := trodAll_cons r2
  obtain ⟨rfl, rfl, rfl⟩ := trodAll_nil r3
  obtain rfl : args = #[v0, v1, v2, v3] := by cases args; simp_all
  obtain ⟨rfl, rfl⟩ := trodVars_none hV
  have k0 := h0
  have lt0 : ∀ x ∈ p0, x.block < W.heap.size := by obtain ⟨m, hm⟩ := k0; exact DataW.trod_lt m _ _ _ hm
  have hw0 : ∀ z ∈ d0.weights Tryz.prog 25, z ≤ reachBytes := fun z hz => by simpa using List.all_eq_true.1 hsz z (DataW.weights_mem_each (j := 0) rfl rfl z hz)
  obtain ⟨c0, rfl, -⟩ := okWide_struct Tryz.underlying25 (hval 0 25 v0 rfl rfl)
  obtain ⟨fuel0, hf0⟩ := h0
  obtain ⟨A0a, c0a, M0, A0b, c0b, E0, e0, g0⟩ := open_schema hf0 hw0
  have e0' : c0 = #[.slice A0a M0.length c0a, .slice A0b E0.length c0b] := by apply Array.ext'; simpa [Value.cells] using e0
  subst e0'
  obtain ⟨a1, rfl, rfl, rfl, w1⟩ := open_int Tryz.underlying3 (hval 1 3 v1 rfl rfl) h1
  obtain ⟨a2, rfl, rfl, rfl, w2⟩ := open_int Tryz.underlying3 (hval 2 3 v2 rfl rfl) h2
  have k3 := h3
  have lt3 : ∀ x ∈ p3, x.block < W.heap.size := by obtain ⟨m, hm⟩ := k3; exact DataW.trod_lt m _ _ _ hm
  have hw3 : ∀ z ∈ d3.weights Tryz.prog 39, z ≤ reachBytes := fun z hz => by simpa using List.all_eq_true.1 hsz z (DataW.weights_mem_each (j := 3) rfl rfl z hz)
  obtain ⟨c3, rfl, -⟩ := okWide_struct Tryz.underlying39 (hval 3 39 v3 rfl rfl)
  obtain ⟨fuel3, hf3⟩ := h3
  obtain ⟨x3, g3⟩ : ∃ x, RVal Go.Proofs.YthikfifoomfjgaaGreat.Great 0 W (RMsg Go.Proofs.YthikfifoomfjgaaGreat.Great 0 W fuel3) c3.toList x := open_val (fun m _ => open_msg m) hf3 hw3
  clear hA0 hval0 hsz0 hsz
  refine (walk (fuel3) W _ _ M0 _ _ E0 g0 a1 (PA.int_wf w1) a2 (PA.int_wf w2) c3.toList x3 (g3.keep (Nat.le_refl _) (by omega) (Keeps.refl _ _))).mono fun e W' ⟨he, bel⟩ => ?_
  subst he
  exact ⟨_, rfl, _, _, _, [], _, [], hW', trodAll_mk1 (shut_bool Tryz.underlying4 _), (trodAll_cons_mk (Below.trod laidOut (by kernel_rfl) (of_decide_eq_true (by kernel_rfl)) k0 bel lt0) (trodAll_cons_mk (shut_int Tryz.underlying3 w1) (trodAll_cons_mk (shut_int Tryz.underlying3 w2) (trodAll_cons_mk (Below.trod laidOut (by kernel_rfl) (of_decide_eq_true (by kernel_rfl)) k3 bel lt3) trodAll_mk0)))), rfl, bel.frame _, fun h => by cases h⟩

theorem over : Rows.typedValRow.holds Tryz.pinned (OpenSpec.ofChange Rows.typedValSpec) :=
  OpenClaim.holds_of_wide 5 Tryz.f5 rfl rfl rfl rfl rfl rfl rfl ⟨rfl, rfl, rfl, rfl, rfl⟩ rfl rfl rfl rfl rfl (by kernel_rfl) Tryz.func5 (by kernel_rfl)
    (of_decide_eq_true (by kernel_rfl)) (by unfold Func.isWrapper; first | (rw [if_pos (by decide +kernel)]; kernel_rfl) | (rw [if_neg (by decide +kernel)]; exact ⟨rfl, rfl⟩))
    (fun os started H enc _ => lifted os started H enc)

/-- THE STATEMENT -/
theorem proved : Rows.TypedValSaid := over
#print axioms proved
end Go.Proofs.YthikfifoomfjgaaGreat.typedVal
