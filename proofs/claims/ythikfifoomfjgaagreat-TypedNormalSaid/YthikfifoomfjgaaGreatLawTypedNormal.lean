/- The statement TypedNormal: for all schemas, numbers and messages, what is normal is of its message, normal again it is the same, it is no deeper and has no more values; a message that is of none has no normal one; no condition. -/
import Derived.Test.YthikfifoomfjgaaGreatRows
import Derived.WalkKit
import Derived.ProofKit
import Derived.OpenShut
import Derived.ShutString
import Derived.ChangeOld
import Derived.Below
import Derived.Deep.RegionHeld3
import Derived.Deep.DeepCutAuto
import Derived.WalkSpells
import Derived.SizedLaws
import Derived.ChangeSlices
import Derived.Test.YthikfifoomfjgaaGreatPlainP10
import Derived.Test.YthikfifoomfjgaaGreatNormP10
import Derived.Test.YthikfifoomfjgaaGreatRefSameP10
namespace Go.Proofs.YthikfifoomfjgaaGreat.typedNormal
open Go.ChangeShapes Go.WideShapes Go.ChangeAt Go.RowKit Go.Tr Go.Proofs.YthikfifoomfjgaaGreat Go.Proofs.YthikfifoomfjgaaGreat.PA Go.Proofs.YthikfifoomfjgaaGreatW.PrintWords Go.Proofs.YthikfifoomfjgaaGreatW.PrintLast Go.Proofs.YthikfifoomfjgaaGreatW.PrintMore
set_option linter.unusedVariables false
set_option linter.unusedSimpArgs false

theorem own : ownKnob Tryz.prog.godebug = none := by kernel_rfl
theorem laidOut : laidOutB Tryz.prog = true := by kernel_rfl
theorem keep5n {w w' : World} {p0 p1 p2 p3 p4 : Addr} {v0 v1 v2 v3 v4 : Value} {K : Nat} (b : Below K w w') (hK : K = w.heap.size) (h : w.cell? p0 = some v0 ∧ w.cell? p1 = some v1 ∧ w.cell? p2 = some v2 ∧ w.cell? p3 = some v3 ∧ w.cell? p4 = some v4) :
    w'.cell? p0 = some v0 ∧ w'.cell? p1 = some v1 ∧ w'.cell? p2 = some v2 ∧ w'.cell? p3 = some v3 ∧ w'.cell? p4 = some v4 := by
  subst hK
  obtain ⟨h0, h1, h2, h3, h4⟩ := h
  exact ⟨(b.cell (block_lt_of_cell h0)).trans h0, (b.cell (block_lt_of_cell h1)).trans h1, (b.cell (block_lt_of_cell h2)).trans h2, (b.cell (block_lt_of_cell h3)).trans h3, (b.cell (block_lt_of_cell h4)).trans h4⟩
theorem keep3n {w w' : World} {p0 p1 p2 : Addr} {v0 v1 v2 : Value} {K : Nat} (b : Below K w w') (hK : K = w.heap.size) (h : w.cell? p0 = some v0 ∧ w.cell? p1 = some v1 ∧ w.cell? p2 = some v2) : w'.cell? p0 = some v0 ∧ w'.cell? p1 = some v1 ∧ w'.cell? p2 = some v2 := keep3w b hK h
/-- The plain law. -/
theorem law_normal (S : Sch) (n : Nat) (m : Int) (x : Msg) (h : mayOk S n m x = true) : mayOk S n m (norm S n m x) = true ∧ nrm S n m (norm S n m x) = norm S n m x ∧ (norm S n m x).deep ≤ x.deep ∧ (norm S n m x).size ≤ x.size ∧ nrm S n m x = norm S n m x := by
  have h0 := h
  unfold mayOk at h
  simp only [Bool.and_eq_true, decide_eq_true_eq] at h
  obtain ⟨h1, h2, h3⟩ := h
  have hd := norm_deep S n m x h3
  have hm : mayOk S n m (norm S n m x) = true := by
    unfold mayOk
    simp only [Bool.and_eq_true, decide_eq_true_eq]
    exact ⟨by omega, h2, norm_msgOk S n m x h3⟩
  refine ⟨hm, ?_, hd, norm_size S n m x h3, ?_⟩
  · unfold nrm; rw [if_pos hm]; exact norm_norm S n m x h3
  · unfold nrm; rw [if_pos h0]
/-! THE WALK -/
set_option maxHeartbeats 8000000 in
set_option maxRecDepth 100000 in
theorem walk (n : Nat) (w : World) (A0a : Option Addr) (c0a : Nat) (M0 : List S58) (A0b : Option Addr) (c0b : Nat) (E0 : List S79) (h0 : OkSchema w A0a c0a M0 A0b c0b E0) (a1 : Int) (w1 : -9223372036854775808 ≤ a1 ∧ a1 ≤ 9223372036854775807) (cs2 : List Value) (x2 : Msg) (h2 : RMsg Go.Proofs.YthikfifoomfjgaaGreat.Great 0 w n cs2 x2) :
    Calls Tryz.prog 7 #[.agg #[.slice A0a M0.length c0a, .slice A0b E0.length c0b], .int .i64 a1, .agg cs2.toArray] w fun e w' => e = .returned (.bool true) ∧ Below w.heap.size w w' := by
  cases n with
  | zero => exact h2.elim
  | succ n =>
  have hm1 := w1
  clear w1
  obtain ⟨HAT, HOK, hfs⟩ := Sch.of_ok h0
  obtain ⟨S, hS⟩ : ∃ S : Sch, S = ⟨M0, E0, A0a, A0b, c0a, c0b⟩ := ⟨_, rfl⟩
  have hcells : (#[.slice A0a M0.length c0a, .slice A0b E0.length c0b] : Array Value) = #[.slice S.A0 S.M.length S.c0, .slice S.A1 S.E.length S.c1] := by rw [hS]
  rw [hcells]
  have HFS : Hid (FewP S.M S.E → okSchema S.M S.E = true) := Lib.hid (by rw [hS]; exact hfs)
  rw [← hS] at HAT HOK
  have HA := Lib.hid fun w' => awake10 w'
  have HSA := Lib.hid HAT
  have HFO := Lib.hid HOK
  obtain ⟨c, rfl, -⟩ := rmsg_one _ 0 (n + 1) w cs2 x2 h2
  obtain ⟨ca, cn, cc, rfl⟩ := rmsg_slice h2
  have H2 := Lib.hid h2
  clear HAT HOK hfs h0 h2 hcells hS
  go_enter Tryz.func7, Tryz.ntmps7
  go_wp2_with fail
  refine (HA.out _).mono ?_; rintro e w1 ⟨rfl, b1⟩
  have kk : w1.cell? ⟨w.heap.size, 0, none⟩ = some (.slice S.A0 S.M.length S.c0) ∧ w1.cell? ⟨w.heap.size, 1, none⟩ = some (.slice S.A1 S.E.length S.c1) ∧ w1.cell? ⟨w.heap.size + 1, 0, none⟩ = some (.slice ca cn cc) :=
    keep3n b1 rfl (by refine ⟨?_, ?_, ?_⟩ <;> simp [go_sem])
  have B1 := Lib.hid ((al2 _ _ _).nx b1)
  clear b1
  have KK := Lib.hid kk
  obtain ⟨k0, k1, k2⟩ := kk
  have l0 := block_lt_of_cell k0
  have l2 := block_lt_of_cell k2
  have hfew := few10 S Great (n + 1) (by decide) w1 (HSA.out.below B1.out) [_] _ (RMsg.below B1.out (n + 1) H2.out)
  unfold Sch.cells at hfew
  have HFEW := Lib.hid hfew
  clear hfew
  go_wp2_with fail
  refine HFEW.out.mono ?_; rintro e w4 ⟨⟨b, rfl, hb⟩, b4⟩
  have KK4 := Lib.hid (keep3n b4 rfl KK.out)
  have B4 := Lib.hid (B1.out.nx b4)
  clear b4 HFEW k0 k1 k2 l0 l2 KK B1
  obtain ⟨k0, k1, k2⟩ := KK4.out
  have l0 := block_lt_of_cell k0
  have l2 := block_lt_of_cell k2
  cases b with
  | false =>
    go_wp2_with fail
    exact ⟨rfl, _, results_tmp (t := 6) rfl _ _ _, rfl, B4.out⟩
  | true =>
    obtain ⟨hfp, hlt⟩ := hb (by first | rfl | trivial)
    have hok := HFS.out hfp
    have HX := Lib.hid (RMsg.below B4.out (n + 1) (H2.out.shrink (L' := 10000) (n + 1) (by have := hlt.1; omega)))
    have hws := weight_size x2
    have hdx : x2.deep ≤ 80 := by have := hlt.2; omega
    have hsx : x2.size ≤ 3000 := by have := hlt.1; omega
    have hnm : ∀ w' cs x, Below w4.heap.size w4 w' → RMsg 10000 0 w' (n + 1) cs x → _ := fun w' cs x hb h => typed_normal S HFO.out hok n w' (HSA.out.below (B4.out.nx hb)) a1 cs x h
    have his : ∀ w' cs x, Below w4.heap.size w4 w' → RMsg 10000 0 w' (n + 1) cs x → _ := fun w' cs x hb h => typed_is S HFO.out hok n w' (HSA.out.below (B4.out.nx hb)) a1 cs x h
    have hmy : ∀ w' cs x, Below w4.heap.size w4 w' → RMsg 10000 0 w' (n + 1) cs x → _ := fun w' cs x hb h => typed_may S HFO.out hok 10000 (n + 1) (by omega) w' (HSA.out.below (B4.out.nx hb)) a1 cs x h
    have HPL := Lib.hid (law_normal S (n + 1) a1 x2)
    unfold Sch.cells at hnm his hmy
    clear hb hfp hlt hok hws HFS H2
    cases hq : mayOk S (n + 1) a1 x2 with
    | false =>
      have h1 := hnm w4 _ x2 (Below.refl _ _) HX.out
      rw [hq] at h1
      have HN1 := Lib.hid h1
      have HMY := Lib.hid (fun w' hb => by have h := hmy w' _ x2 hb (RMsg.below hb (n + 1) HX.out); rw [hq] at h; exact h)
      have HNR := Lib.hid (show nrm S (n + 1) a1 x2 = .mk [] by unfold nrm; rw [hq]; rfl)
      clear h1 hnm his hmy hq
      go_wp2_with fail
      refine HN1.out.mono ?_; rintro e w5 ⟨v, rfl, hv, b5⟩
      rw [HNR.out] at hv
      obtain ⟨va, vn, vc, rfl⟩ := rmsg_slice hv
      have hvn : vn = 0 := by
        obtain ⟨c, e, h⟩ := hv
        injection e with e _
        subst e
        obtain ⟨a, cap, e, -⟩ := h
        injection e
      subst hvn
      have KK5 := keep3n b5 rfl KK4.out
      have B5 := Lib.hid b5
      clear k0 k1 k2 l0 l2 hv b5
      obtain ⟨k0, k1, k2⟩ := KK5
      have l0 := block_lt_of_cell k0
      have l2 := block_lt_of_cell k2
      have A9 := Lib.hid (al1 w5 (.cells #[.slice va 0 vc] 28))
      go_wp2_with (go_at_call 16; (with_reducible refine (HMY.out _ (B5.out.nx A9.out)).mono ?_); rintro e w6 ⟨rfl, b6⟩; (have c9 : w6.cell? ⟨w5.heap.size, 0, none⟩ = some (.slice va 0 vc) := ((b6.cell (p := ⟨w5.heap.size, 0, none⟩) (by simp)).trans (by simp [go_sem]))); (have l9 := block_lt_of_cell c9); (have B6 := Lib.hid b6); clear b6)
      exact ⟨rfl, _, results_tmp (t := 6) rfl _ _ _, rfl, B4.out.nx (B5.out.nx (A9.out.nx B6.out))⟩
    | true =>
      obtain ⟨p1, p2, p3, p4, p5⟩ := HPL.out hq
      have h1 := hnm w4 _ x2 (Below.refl _ _) HX.out
      rw [hq, p5] at h1
      have HN1 := Lib.hid h1
      have HMY := Lib.hid (fun w' hb => by have h := hmy w' _ x2 hb (RMsg.below hb (n + 1) HX.out); rw [hq] at h; exact h)
      have HN2 := Lib.hid (fun w' cs hb h => by have h := hnm w' cs (norm S (n + 1) a1 x2) hb h; rw [p1, p2] at h; exact h)
      have HIS := Lib.hid (fun w' cs hb h => by have h := his w' cs (norm S (n + 1) a1 x2) hb h; rw [p1, p2, (same_iff _ _).2 rfl] at h; exact h)
      have hle1 : decide (((norm S (n + 1) a1 x2).deep : Int) ≤ x2.deep) = true := decide_eq_true (by omega)
      have hle2 : decide (((norm S (n + 1) a1 x2).size : Int) ≤ x2.size) = true := decide_eq_true (by omega)
      have hdz : (norm S (n + 1) a1 x2).deep ≤ 1000000 := by omega
      have hsz : (norm S (n + 1) a1 x2).size ≤ 1000000 := by omega
      clear h1 hnm his hmy hq p1 p2 p3 p4 p5
      generalize hz : norm S (n + 1) a1 x2 = z at *
      clear hz
      have HDX := Lib.hid (fun w' (hb : Below w4.heap.size w4 w') => value_deep 10000 (by omega) (n + 1) w' _ x2 (RMsg.below hb (n + 1) HX.out) (by omega))
      have HSX := Lib.hid (fun w' (hb : Below w4.heap.size w4 w') => value_size 10000 (by omega) (n + 1) w' _ x2 (RMsg.below hb (n + 1) HX.out) (by omega))
      have HDZ := Lib.hid (fun w' cs h => value_deep 10000 (by omega) (n + 1) w' cs z h hdz)
      have HSZ := Lib.hid (fun w' cs h => value_size 10000 (by omega) (n + 1) w' cs z h hsz)
      have HSM := Lib.hid (fun w' cs ds h k => by have h := ref_same 10000 0 (by unfold maxLen; omega) (n + 1) w' cs ds z z h k; rw [(same_iff _ _).2 rfl] at h; exact h)
      clear hdz hsz hdx hsx HPL
      generalize ((z.deep : Nat) : Int) = dz at *
      generalize ((z.size : Nat) : Int) = sz at *
      generalize ((x2.deep : Nat) : Int) = dx at *
      generalize ((x2.size : Nat) : Int) = sx at *
      go_wp2_with fail
      refine HN1.out.mono ?_; rintro e w5 ⟨v, rfl, hv, b5⟩
      obtain ⟨va, vn, vc, rfl⟩ := rmsg_slice hv
      have KK5 := keep3n b5 rfl KK4.out
      have B5 := Lib.hid b5
      have HV := Lib.hid hv
      clear k0 k1 k2 l0 l2 hv b5
      obtain ⟨k0, k1, k2⟩ := KK5
      have l0 := block_lt_of_cell k0
      have l2 := block_lt_of_cell k2
      have A9 := Lib.hid (al1 w5 (.cells #[.slice va vn vc] 28))
      have HC8 := Lib.hid (HN2.out _ _ (B5.out.nx A9.out) (RMsg.below A9.out (n + 1) HV.out))
      go_wp2_with fail
      refine HC8.out.mono ?_; rintro e w7 ⟨v7, rfl, hv7, b7⟩
      obtain ⟨ua, un, uc, rfl⟩ := rmsg_slice hv7
      have K7 : w7.cell? ⟨w.heap.size, 0, none⟩ = some (.slice S.A0 S.M.length S.c0) ∧ w7.cell? ⟨w.heap.size, 1, none⟩ = some (.slice S.A1 S.E.length S.c1) ∧ w7.cell? ⟨w.heap.size + 1, 0, none⟩ = some (.slice ca cn cc) ∧ w7.cell? ⟨w5.heap.size, 0, none⟩ = some (.slice va vn vc) := by
        have h := keep3n (A9.out.nx b7) rfl ⟨k0, k1, k2⟩
        exact ⟨h.1, h.2.1, h.2.2, (b7.cell (p := ⟨w5.heap.size, 0, none⟩) (by simp)).trans (by simp [go_sem])⟩
      have A11 := Lib.hid (al1 w7 (.cells #[.slice ua un uc] 28))
      have B7 := Lib.hid (B5.out.nx (A9.out.nx b7))
      have HV7 := Lib.hid (RMsg.below A11.out (n + 1) hv7)
      have HVN := Lib.hid (RMsg.below A11.out (n + 1) (RMsg.below b7 (n + 1) (RMsg.below A9.out (n + 1) HV.out)))
      clear k0 k1 k2 l0 l2 hv7 b7
      obtain ⟨k0, k1, k2, k3⟩ := K7
      have l0 := block_lt_of_cell k0
      have l2 := block_lt_of_cell k2
      have l3 := block_lt_of_cell k3
      go_upto_region 9 with fail
      have hs0 : ∀ W : World, W = w7.alloc (.cells #[.slice ua un uc] 28) → (W.cell? ⟨w.heap.size, 0, none⟩ = some (.slice S.A0 S.M.length S.c0) ∧ W.cell? ⟨w.heap.size, 1, none⟩ = some (.slice S.A1 S.E.length S.c1) ∧ W.cell? ⟨w.heap.size + 1, 0, none⟩ = some (.slice ca cn cc) ∧ W.cell? ⟨w5.heap.size, 0, none⟩ = some (.slice va vn vc) ∧ W.cell? ⟨w7.heap.size, 0, none⟩ = some (.slice ua un uc)) := by
        rintro W rfl
        have h := keep5n (A11.out) rfl ⟨k0, k1, k2, k3, k3⟩
        exact ⟨h.1, h.2.1, h.2.2.1, h.2.2.2.1, by simp [go_sem]⟩
      have hs0 := hs0 _ rfl
      have BW := Lib.hid (B7.out.nx A11.out)
      clear k0 k1 k2 k3 l0 l2 l3
      generalize w7.alloc (.cells #[.slice ua un uc] 28) = W at *
      obtain ⟨k0, k1, k2, k3, k4⟩ := hs0
      have hs0 := And.intro k0 (And.intro k1 (And.intro k2 (And.intro k3 k4)))
      have l0 := block_lt_of_cell k0
      have l2 := block_lt_of_cell k2
      have l3 := block_lt_of_cell k3
      have l4 := block_lt_of_cell k4
      have hk := hs0
      go_region_held3 (fun w' => w'.cell? ⟨w.heap.size, 0, none⟩ = some (.slice S.A0 S.M.length S.c0) ∧ w'.cell? ⟨w.heap.size, 1, none⟩ = some (.slice S.A1 S.E.length S.c1) ∧ w'.cell? ⟨w.heap.size + 1, 0, none⟩ = some (.slice ca cn cc) ∧ w'.cell? ⟨w5.heap.size, 0, none⟩ = some (.slice va vn vc) ∧ w'.cell? ⟨w7.heap.size, 0, none⟩ = some (.slice ua un uc))
        (first | exact hk | (go_keep; done))
        (first
          | (go_at_call 18; (with_reducible refine (HIS.out _ _ ?_ ?_).mono ?_); (exact BW.out.drew); (exact RMsg.below (Below.refl _ _).drew (n + 1) HVN.out); rintro e y1 ⟨rfl, g1⟩; (have D1 := Lib.hid ((Below.refl W.heap.size W).drew.nx g1)); clear hk; (have hk := keep5n D1.out rfl hs0); clear g1)
          | (go_at_call 14; (with_reducible refine (HSM.out _ _ _ ?_ ?_).mono ?_); (exact RMsg.below D1.out (n + 1) HV7.out); (exact RMsg.below D1.out (n + 1) HVN.out); rintro e y2 ⟨rfl, g2⟩; (have D2 := Lib.hid (D1.out.nx g2)); clear hk; (have hk := keep5n D2.out rfl hs0); clear g2)
          | (go_at_call 24; (with_reducible refine (HDZ.out _ [.slice va vn vc] ?_).mono ?_); (exact RMsg.below D2.out (n + 1) HVN.out); rintro e y3 ⟨rfl, g3⟩; (have D3 := Lib.hid (D2.out.nx g3)); clear hk; (have hk := keep5n D3.out rfl hs0); clear g3)
          | (go_at_call 24; (with_reducible refine (HDX.out _ ?_).mono ?_); (exact BW.out.nx D3.out); rintro e y4 ⟨rfl, g4⟩; (have D4 := Lib.hid (D3.out.nx g4)); clear hk; (have hk := keep5n D4.out rfl hs0); clear g4)
          | (go_at_call 25; (with_reducible refine (HSZ.out _ [.slice va vn vc] ?_).mono ?_); (exact RMsg.below D4.out (n + 1) HVN.out); rintro e y5 ⟨rfl, g5⟩; (have D5 := Lib.hid (D4.out.nx g5)); clear hk; (have hk := keep5n D5.out rfl hs0); clear g5)
          | (go_at_call 25; (with_reducible refine (HSX.out _ ?_).mono ?_); (exact BW.out.nx D5.out); rintro e y6 ⟨rfl, g6⟩; (have D6 := Lib.hid (D5.out.nx g6)); clear hk; (have hk := keep5n D6.out rfl hs0); clear g6)
          | (go_at_call 16; (with_reducible refine (HMY.out _ ?_).mono ?_); (exact BW.out.nx D6.out); rintro e y7 ⟨rfl, g7⟩; (have D7 := Lib.hid (D6.out.nx g7)); clear hk; (have hk := keep5n D7.out rfl hs0); clear g7))
      all_goals (
        go_wp2
        exact ⟨rfl, _, results_tmp (t := 6) rfl _ _ _, rfl, B4.out.nx (BW.out.nx D7.out)⟩)

/-! THE ROW -/
set_option maxRecDepth 100000 in
theorem lifted (os : Os) (started : os.Started) (H : Type) (enc : TypeId × Value → H) :
    ReturnsInHanded {} Tryz.checked os 7 .any (Rows.typedNormalSpec.pre6 enc Tryz.prog Tryz.f7 Rows.typedNormalRow.domain false) (Rows.typedNormalSpec.post enc Tryz.prog Tryz.f7 false true false false) := by
  refine returnsInHanded_of_change_sized (C := Tryz.checked) own started (by kernel_rfl) Tryz.func7
    (ChangeSpec.witness6 (enc := enc) (C := Tryz.checked) false ⟨#[], #[.agg #[.slice none 0 0, .slice none 0 0], .int .i64 0, .agg #[.slice none 0 0]], []⟩ 8 (by kernel_rfl) (by kernel_rfl) (by kernel_rfl) (by kernel_rfl)) ?_
  intro W base args ds gs before hval0 hW hcnd hsz0 _
  have hsz : (DataW.weightsEach Tryz.prog (Tryz.f7.params.toList ++ Rows.typedNormalSpec.plain.varTypes Tryz.prog) (ds ++ gs)).all (· ≤ reachBytes) = true := hsz0
  have hval : ∀ (j : Nat) t v, Tryz.f7.params[j]? = some t → args[j]? = some v → Value.okWide Tryz.prog W .any base t v := hval0
  have hW' := hW
  obtain ⟨p, q, hA0, hV, rfl, hfz, hnd⟩ := hW
  have hA : DataW.TrodAll enc Tryz.prog W 0 (fun _ => true) true Tryz.f7.params.toList args.toList ds p := hA0
  rw [Tryz.params7] at hA hval hsz
  obtain ⟨v0, vs0, d0, ds0, p0, q0, hargs, rfl, rfl, h0, r0⟩ := trodAll_cons hA
  obtain ⟨v1, vs1, d1, ds1, p1, q1, rfl, rfl, rfl, h1, r1⟩ := trodAll_cons r0
  obtain ⟨v2, vs2, d2, ds2, p2, q2, rfl, rfl, rfl, h2, r2⟩ := trodAll_cons r1
  obtain ⟨rfl, rfl, rfl⟩ := trodAll_nil r2
  obtain rfl : args = #[v0, v1, v2] := by cases args; simp_all
  obtain ⟨rfl, rfl⟩ := trodVars_none hV
  have k0 := h0
  have lt0 : ∀ x ∈ p0, x.block < W.heap.size := by obtain ⟨m, hm⟩ := k0; exact DataW.trod_lt m _ _ _ hm
  have hw0 : ∀ z ∈ d0.weights Tryz.prog 25, z ≤ reachBytes := fun z hz => by simpa using List.all_eq_true.1 hsz z (DataW.weights_mem_each (j := 0) rfl rfl z hz)
  obtain ⟨c0, rfl, -⟩ := okWide_struct Tryz.underlying25 (hval 0 25 v0 rfl rfl)
  obtain ⟨fuel0, hf0⟩ := h0
  obtain ⟨A0a, c0a, M0, A0b, c0b, E0, e0, g0⟩ := open_schema hf0 hw0
  have e0' : c0 = #[.slice A0a M0.length c0a, .slice A0b E0.length c0b] := by apply Array.ext'; simpa [Value.cells] using e0
  subst e0'
  obtain ⟨a1, rfl, rfl, rfl, w1⟩ := open_int Tryz.underlying3 (hval 1 3 v1 rfl rfl) h1
  have k2 := h2
  have lt2 : ∀ x ∈ p2, x.block < W.heap.size := by obtain ⟨m, hm⟩ := k2; exact DataW.trod_lt m _ _ _ hm
  have hw2 : ∀ z ∈ d2.weights Tryz.prog 28, z ≤ reachBytes := fun z hz => by simpa using List.all_eq_true.1 hsz z (DataW.weights_mem_each (j := 2) rfl rfl z hz)
  obtain ⟨c2, rfl, -⟩ := okWide_struct Tryz.underlying28 (hval 2 28 v2 rfl rfl)
  obtain ⟨fuel2, hf2⟩ := h2
  obtain ⟨x2, g2⟩ : ∃ x, RMsg Go.Proofs.YthikfifoomfjgaaGreat.Great 0 W fuel2 c2.toList x := open_msg fuel2 _ _ hf2 hw2
  clear hA0 hval0 hsz0 hsz
  refine (walk (fuel2) W _ _ M0 _ _ E0 g0 a1 (PA.int_wf w1) c2.toList x2 (RMsg.keep (Nat.le_refl _) (Keeps.refl _ _) _ _ (by omega) g2)).mono fun e W' ⟨he, bel⟩ => ?_
  subst he
  exact ⟨_, rfl, _, _, _, [], _, [], hW', trodAll_mk1 (shut_bool Tryz.underlying4 _), (trodAll_cons_mk (Below.trod laidOut (by kernel_rfl) (of_decide_eq_true (by kernel_rfl)) k0 bel lt0) (trodAll_cons_mk (shut_int Tryz.underlying3 w1) (trodAll_cons_mk (Below.trod laidOut (by kernel_rfl) (of_decide_eq_true (by kernel_rfl)) k2 bel lt2) trodAll_mk0))), rfl, bel.frame _, fun h => by cases h⟩

theorem over : Rows.typedNormalRow.holds Tryz.pinned (OpenSpec.ofChange Rows.typedNormalSpec) :=
  OpenClaim.holds_of_wide 7 Tryz.f7 rfl rfl rfl rfl rfl rfl rfl ⟨rfl, rfl, rfl, rfl, rfl⟩ rfl rfl rfl rfl rfl (by kernel_rfl) Tryz.func7 (by kernel_rfl)
    (of_decide_eq_true (by kernel_rfl)) (by unfold Func.isWrapper; first | (rw [if_pos (by decide +kernel)]; kernel_rfl) | (rw [if_neg (by decide +kernel)]; exact ⟨rfl, rfl⟩))
    (fun os started H enc _ => lifted os started H enc)

/-- THE STATEMENT -/
theorem proved : Rows.TypedNormalSaid := over
#print axioms proved
end Go.Proofs.YthikfifoomfjgaaGreat.typedNormal
