/- The statement ValidParts: for every schema that is not too great, every message number and every two byte strings of at most 1000 bytes, what decodes alone decodes with more behind it, as deep as the deeper part; what goes wrong alone, but for a cut, goes wrong so with anything behind; no condition. -/
import Derived.Test.YtlokcpfkaijchaaRows
import Derived.WalkKit
import Derived.ProofKit
import Derived.OpenShut
import Derived.ShutString
import Derived.ChangeOld
import Derived.Below
import Derived.Deep.RegionHeld3
import Derived.Deep.DeepCutAuto
import Derived.WalkSpells
import Derived.SizedLaws
import Derived.ChangeSlices
import Derived.Test.YtlokcpfkaijchaaPParts
import Derived.Test.YtlokcpfkaijchaaPMay
import Derived.Test.YtlokcpfkaijchaaAwake18
import Derived.Test.YtlokcpfkaijchaaOpenS
namespace Go.Proofs.Ytlokcpfkaijchaa.validParts
open Go.ChangeShapes Go.WideShapes Go.ChangeAt Go.RowKit Go.Tr Go.Proofs.Ytlokcpfkaijchaa Go.Proofs.Ytlokcpfkaijchaa.PA Go.Proofs.YtlokcpfkaijchaaW.PrintWords Go.Proofs.YtlokcpfkaijchaaW.PrintLast Go.Proofs.YtlokcpfkaijchaaW.PrintMore
set_option linter.unusedVariables false
set_option linter.unusedSimpArgs false

theorem own : ownKnob Try.prog.godebug = none := by kernel_rfl
theorem laidOut : laidOutB Try.prog = true := by kernel_rfl
theorem is_bytes {l : List Int} (h : ∀ n ∈ l, 0 ≤ n ∧ n ≤ 255) (hl : l.length ≤ 1000) : isBytes l = true := by
  simp only [isBytes, Bool.and_eq_true, List.all_eq_true, decide_eq_true_eq]
  exact ⟨h, by omega⟩
/-! THE WALK -/
set_option maxHeartbeats 8000000 in
set_option maxRecDepth 100000 in
theorem walk (w : World) (A0a : Option Addr) (c0a : Nat) (M0 : List S77) (A0b : Option Addr) (c0b : Nat) (E0 : List S81) (h0 : OkSchema w A0a c0a M0 A0b c0b E0) (a1 : Int) (w1 : -9223372036854775808 ≤ a1 ∧ a1 ≤ 9223372036854775807) (A2 : Option Addr) (c2 : Nat) (l2 : List Int) (h2 : OkBytes w A2 c2 l2) (A3 : Option Addr) (c3 : Nat) (l3 : List Int) (h3 : OkBytes w A3 c3 l3) :
    Calls Try.prog 3 #[.agg #[.slice A0a M0.length c0a, .slice A0b E0.length c0b], .int .i64 a1, .slice A2 l2.length c2, .slice A3 l3.length c3] w fun e w' => e = .returned (.bool true) ∧ Below w.heap.size w w' := by
  have hm1 := w1
  clear w1
  obtain ⟨q1, q2, q3, q4, q5, q6⟩ := h0
  obtain ⟨p1, p2, p3⟩ := h2
  obtain ⟨s1, s2, s3⟩ := h3
  have HA := Lib.hid fun w' => awake18 w'
  obtain ⟨fw, hfw, hfp⟩ := few_tells M0 E0
  have HF := Lib.hid fun w' (hb : Below w.heap.size w w') => truffleref08_Few.calls 200 A0a c0a M0 A0b c0b E0 fw w' (Kd.C_below q2 hb) q1 (Kd.C_below q4 hb) q3 hfw
  have HC := Lib.hid fun (A : Option Addr) (c : Nat) (l : List Int) (n e : Int) (w' : World) (hb : Below w.heap.size w w') (h1 : Kd.C (Kd.int .u8) w' A l.length l) (h2 : l.length ≤ c) (h : valid_Check.f M0 E0 a1 l = some (n, e)) => valid_Check.calls A0a c0a M0 A0b c0b E0 a1 A c l n e w' (Kd.C_below q2 hb) q1 (Kd.C_below q4 hb) q3 h1 h2 h
  have HP := Lib.hid (And.intro p1 p2)
  have HS := Lib.hid (And.intro s1 s2)
  have HMay := Lib.hid fun (h : fw = true) => may_total M0 E0 (few_ok (hfp h) q5 q6)
  have HI2 := Lib.hid p3
  have HI3 := Lib.hid s3
  clear hfw hfp q1 q2 q3 q4 q5 q6 p1 p2 p3 s1 s2 s3
  go_enter Try.func3, Try.ntmps3
  go_wp2_with fail
  refine (HA.out _).mono ?_; rintro e w1 ⟨rfl, b1⟩
  have Q1 := Lib.hid ((Box2.new w (.slice A0a M0.length c0a) (.slice A0b E0.length c0b) 25).below b1)
  have B1 := Lib.hid ((al1 w (.cells #[.slice A0a M0.length c0a, .slice A0b E0.length c0b] 25)).nx b1)
  clear b1
  obtain ⟨l1, t0, t1⟩ := Q1.out
  go_wp2_with fail
  refine (HF.out _ B1.out).mono ?_; rintro e w2 ⟨rfl, b2⟩
  have Q2 := Lib.hid (Q1.out.below b2)
  have B2 := Lib.hid (B1.out.nx b2)
  clear b2 l1 t0 t1 Q1 B1
  obtain ⟨l1, t0, t1⟩ := Q2.out
  cases fw with
  | false =>
    go_wp2_with fail
    exact ⟨rfl, _, results_tmp (t := 8) rfl _ _ _, rfl, B2.out⟩
  | true =>
    by_cases hA : 1000 < l2.length
    · have hd : decide ((l2.length : Int) > 1000) = true := by simp; omega
      go_wp2_with fail
      exact ⟨rfl, _, results_tmp (t := 8) rfl _ _ _, rfl, B2.out⟩
    · have hd : decide ((l2.length : Int) > 1000) = false := by simp; omega
      by_cases hB : 1000 < l3.length
      · have hd3 : decide ((l3.length : Int) > 1000) = true := by simp; omega
        go_wp2_with fail
        exact ⟨rfl, _, results_tmp (t := 8) rfl _ _ _, rfl, B2.out⟩
      · have hd3 : decide ((l3.length : Int) > 1000) = false := by simp; omega
        have i2 := is_bytes HI2.out (by omega)
        have i3 := is_bytes HI3.out (by omega)
        obtain ⟨mm, hmm⟩ := HMay.out rfl
        obtain ⟨n1, e1, g1⟩ := check_tells a1 l2 i2 (by omega) mm hmm
        obtain ⟨n2, e2, g2⟩ := check_tells a1 l3 i3 (by omega) mm hmm
        have i4 := isBytes_append i2 i3 (by omega)
        have hl4 : (l2 ++ l3).length = l2.length + l3.length := List.length_append
        obtain ⟨n3, e3, g3⟩ := check_tells a1 (l2 ++ l3) i4 (by omega) mm hmm
        obtain ⟨K1, K2⟩ := check_parts a1 l2 l3 i2 i3 (by omega) (by omega) n1 e1 n2 e2 n3 e3 g1 g2 g3
        obtain ⟨l4, h4⟩ : ∃ l, l = l2 ++ l3 := ⟨_, rfl⟩
        rw [← h4] at g3
        have H4 := Lib.hid h4
        clear h4
        have HK1 := Lib.hid K1
        have HK2 := Lib.hid K2
        have G1 := Lib.hid g1
        have G2 := Lib.hid g2
        have G3 := Lib.hid g3
        have HL := Lib.hid hl4
        have LA : l2.length ≤ 1000 := by omega
        have LB : l3.length ≤ 1000 := by omega
        clear K1 K2 g1 g2 g3 i2 i3 i4 hmm hl4 hA hB HMay HF
        go_wp2_with fail
        refine (HC.out A2 c2 l2 n1 e1 w2 B2.out (Kd.C_below HP.out.2 B2.out) HP.out.1 G1.out).mono ?_; rintro e w3 ⟨rfl, b3⟩
        have Q3 := Lib.hid (Q2.out.below b3)
        have B3 := Lib.hid (B2.out.nx b3)
        clear b3 l1 t0 t1 Q2 B2
        obtain ⟨l1, t0, t1⟩ := Q3.out
        go_wp2_with fail
        refine (HC.out A3 c3 l3 n2 e2 w3 B3.out (Kd.C_below HS.out.2 B3.out) HS.out.1 G2.out).mono ?_; rintro e w4 ⟨rfl, b4⟩
        have Q4 := Lib.hid (Q3.out.below b4)
        have B4 := Lib.hid (B3.out.nx b4)
        clear b4 l1 t0 t1 Q3 B3
        obtain ⟨l1, t0, t1⟩ := Q4.out
        go_upto_region 6 with fail
        have hk : w4.cell? ⟨w.heap.size, 0, none⟩ = some (.slice A0a M0.length c0a) ∧ w4.cell? ⟨w.heap.size, 1, none⟩ = some (.slice A0b E0.length c0b) := ⟨t0, t1⟩
        go_region_held3 (fun w' => w'.cell? ⟨w.heap.size, 0, none⟩ = some (.slice A0a M0.length c0a) ∧ w'.cell? ⟨w.heap.size, 1, none⟩ = some (.slice A0b E0.length c0b))
          (first | exact hk)
          (first
            | ((refine Kd.R_append_rows_step (Kd.int .u8) (w0 := w4) w4.heap.size (by rfl) (.const (.slice none 0 0)) (.tmp 52) 26 5 (.int .u8 0) 1 rfl Try.underlying26 info5 rfl (by decide) (by omega) (.slice none 0 0) [] l2 A2 _ c2 (fun _ => True) (fun _ => False) rfl rfl (Kd.R_nil _ _ _ _ _) (Kd.C_below HP.out.2 B4.out.drew) (fun _ _ h => h) (fun _ h => h.elim) (fun _ _ => trivial) (Below.refl _ _).drew (Nat.le_refl _) (by simp; omega) ?_); (intro v1 y1 ho hb hg hat); (have O1 := Lib.hid ho); (have D1 := Lib.hid hb); clear ho hb hg hat hk; (have hk := Q4.out.cells D1.out))
            | ((refine Kd.R_append_rows_step (Kd.int .u8) (w0 := w4) w4.heap.size (by rfl) (.tmp 53) (.tmp 54) 26 5 (.int .u8 0) 1 rfl Try.underlying26 info5 rfl (by decide) (by omega) v1 ([] ++ l2) l3 A3 _ c3 (fun _ => True) (fun _ => False) rfl rfl O1.out (Kd.C_below HS.out.2 (B4.out.nx D1.out)) (fun _ _ h => h) (fun _ h => h.elim) (fun _ _ => trivial) D1.out D1.out.size (by simp; omega) ?_); (intro v2 y2 ho hb hg hat); (rw [List.nil_append, ← H4.out] at ho); (have O2 := Lib.hid ho); (have D2 := Lib.hid hb); clear ho hb hg hat hk; (have hk := Q4.out.cells D2.out); (obtain ⟨A4, c4, e4⟩ := Kd.R_slice O2.out); subst e4)
            | (go_at_call 12; (with_reducible refine (HC.out A4 c4 l4 n3 e3 _ (B4.out.nx D2.out) (Kd.R_reads' O2.out).2.2 (Kd.R_reads' O2.out).2.1 G3.out).mono ?_); (rintro e y3 ⟨rfl, hb⟩); (have D3 := Lib.hid (D2.out.nx hb)); clear hb hk; (have hk := Q4.out.cells D3.out))
            | fail)
        by_cases he : e1 = 0
        · have hd7 : ((e1 : Int) == 0) = true := by simp [he]
          obtain ⟨r1, r2, r3, r4⟩ := HK1.out he
          have hd8 : ((e3 : Int) == e2) = true := by simp [r1]
          have hd9 : decide (n3 ≥ n1) = true := by simpa using r2
          have hd10 : decide (n3 ≥ n2) = true := by simpa using r3
          clear he r1 r2 r3
          rcases r4 with r4 | r4
          · have hd11 : ((n3 : Int) == n1) = true := by simp [r4]
            clear r4
            go_wp2_with fail
            exact ⟨rfl, _, results_tmp (t := 8) rfl _ _ _, rfl, B4.out.nx D3.out⟩
          · have hd12 : ((n3 : Int) == n2) = true := by simp [r4]
            clear r4
            cases hd11 : ((n3 : Int) == n1) <;>
            (go_wp2_with fail
             exact ⟨rfl, _, results_tmp (t := 8) rfl _ _ _, rfl, B4.out.nx D3.out⟩)
        · have hd7 : ((e1 : Int) == 0) = false := by simp [he]
          have r := HK2.out he
          clear he
          cases hd8 : ((e1 : Int) == 6) with
          | true =>
            go_wp2_with fail
            exact ⟨rfl, _, results_tmp (t := 8) rfl _ _ _, rfl, B4.out.nx D3.out⟩
          | false =>
            have r' := r.resolve_left (by simpa using hd8)
            have hd9 : ((e3 : Int) == e1) = true := by simp [r'.1]
            have hd10 : ((n3 : Int) == n1) = true := by simp [r'.2]
            clear r r'
            go_wp2_with fail
            exact ⟨rfl, _, results_tmp (t := 8) rfl _ _ _, rfl, B4.out.nx D3.out⟩

/-! THE ROW -/
set_option maxRecDepth 100000 in
theorem lifted (os : Os) (started : os.Started) (H : Type) (enc : TypeId × Value → H) :
    ReturnsInHanded {} Try.checked os 3 .any (Rows.validPartsSpec.pre6 enc Try.prog Try.f3 Rows.validPartsRow.domain false) (Rows.validPartsSpec.post enc Try.prog Try.f3 false true false false) := by
  refine returnsInHanded_of_change_sized (C := Try.checked) own started (by kernel_rfl) Try.func3
    (ChangeSpec.witness6 (enc := enc) (C := Try.checked) false ⟨#[], #[.agg #[.slice none 0 0, .slice none 0 0], .int .i64 0, .slice none 0 0, .slice none 0 0], []⟩ 8 (by kernel_rfl) (by kernel_rfl) (by kernel_rfl) (by kernel_rfl)) ?_
  intro W base args ds gs before hval0 hW hcnd hsz0 _
  have hsz : (DataW.weightsEach Try.prog (Try.f3.params.toList ++ Rows.validPartsSpec.plain.varTypes Try.prog) (ds ++ gs)).all (· ≤ reachBytes) = true := hsz0
  have hval : ∀ (j : Nat) t v, Try.f3.params[j]? = some t → args[j]? = some v → Value.okWide Try.prog W .any base t v := hval0
  have hW' := hW
  obtain ⟨p, q, hA0, hV, rfl, hfz, hnd⟩ := hW
  have hA : DataW.TrodAll enc Try.prog W 0 (fun _ => true) true Try.f3.params.toList args.toList ds p := hA0
  rw [Try.params3] at hA hval hsz
  obtain ⟨v0, vs0, d0, ds0, p0, q0, hargs, rfl, rfl, h0, r0⟩ := trodAll_cons hA
  obtain ⟨v1, vs1, d1, ds1, p1, q1, rfl, rfl, rfl, h1, r1⟩ := trodAll_cons r0
  obtain ⟨v2, vs2, d2, ds2, p2, q2, rfl, rfl, rfl, h2, r2⟩ := trodAll_cons r1
  obtain ⟨v3, vs3, d3, ds3, p3, q3, rfl, rfl, rfl, h3, r3⟩ := trodAll_cons r2
  obtain ⟨rfl, rfl, rfl⟩ := trodAll_nil r3
  obtain rfl : args = #[v0, v1, v2, v3] := by cases args; simp_all
  obtain ⟨rfl, rfl⟩ := trodVars_none hV
  have k0 := h0
  have lt0 : ∀ x ∈ p0, x.block < W.heap.size := by obtain ⟨m, hm⟩ := k0; exact DataW.trod_lt m _ _ _ hm
  have hw0 : ∀ z ∈ d0.weights Try.prog 25, z ≤ reachBytes := fun z hz => by simpa using List.all_eq_true.1 hsz z (DataW.weights_mem_each (j := 0) rfl rfl z hz)
  obtain ⟨c0, rfl, -⟩ := okWide_struct Try.underlying25 (hval 0 25 v0 rfl rfl)
  obtain ⟨fuel0, hf0⟩ := h0
  obtain ⟨A0a, c0a, M0, A0b, c0b, E0, e0, g0⟩ := open_schema hf0 hw0
  have e0' : c0 = #[.slice A0a M0.length c0a, .slice A0b E0.length c0b] := by apply Array.ext'; simpa [Value.cells] using e0
  subst e0'
  obtain ⟨a1, rfl, rfl, rfl, w1⟩ := open_int Try.underlying3 (hval 1 3 v1 rfl rfl) h1
  have k2 := h2
  have lt2 : ∀ x ∈ p2, x.block < W.heap.size := by obtain ⟨m, hm⟩ := k2; exact DataW.trod_lt m _ _ _ hm
  have hw2 : ∀ z ∈ d2.weights Try.prog 26, z ≤ reachBytes := fun z hz => by simpa using List.all_eq_true.1 hsz z (DataW.weights_mem_each (j := 2) rfl rfl z hz)
  obtain ⟨a2, len2, cap2, rfl⟩ := okWide_slice Try.underlying26 (hval 2 26 v2 rfl rfl)
  obtain ⟨fuel2, hf2⟩ := h2
  obtain ⟨A2, c2, l2, e2, g2⟩ := open_bytes hf2 hw2
  have e2' : Value.slice a2 len2 cap2 = .slice A2 l2.length c2 := by simpa [Value.cells] using e2
  cases e2'
  have k3 := h3
  have lt3 : ∀ x ∈ p3, x.block < W.heap.size := by obtain ⟨m, hm⟩ := k3; exact DataW.trod_lt m _ _ _ hm
  have hw3 : ∀ z ∈ d3.weights Try.prog 26, z ≤ reachBytes := fun z hz => by simpa using List.all_eq_true.1 hsz z (DataW.weights_mem_each (j := 3) rfl rfl z hz)
  obtain ⟨a3, len3, cap3, rfl⟩ := okWide_slice Try.underlying26 (hval 3 26 v3 rfl rfl)
  obtain ⟨fuel3, hf3⟩ := h3
  obtain ⟨A3, c3, l3, e3, g3⟩ := open_bytes hf3 hw3
  have e3' : Value.slice a3 len3 cap3 = .slice A3 l3.length c3 := by simpa [Value.cells] using e3
  cases e3'
  clear hA0 hval0 hsz0 hsz
  refine (walk W _ _ M0 _ _ E0 g0 a1 (int_wf w1) _ _ l2 g2 _ _ l3 g3).mono fun e W' ⟨he, bel⟩ => ?_
  subst he
  exact ⟨_, rfl, _, _, _, [], _, [], hW', trodAll_mk1 (shut_bool Try.underlying4 _), (trodAll_cons_mk (Below.trod laidOut (by kernel_rfl) (of_decide_eq_true (by kernel_rfl)) k0 bel lt0) (trodAll_cons_mk (shut_int Try.underlying3 w1) (trodAll_cons_mk (Below.trod laidOut (by kernel_rfl) (of_decide_eq_true (by kernel_rfl)) k2 bel lt2) (trodAll_cons_mk (Below.trod laidOut (by kernel_rfl) (of_decide_eq_true (by kernel_rfl)) k3 bel lt3) trodAll_mk0)))), rfl, bel.frame _, fun h => by cases h⟩

theorem over : Rows.validPartsRow.holds Try.pinned (OpenSpec.ofChange Rows.validPartsSpec) :=
  OpenClaim.holds_of_wide 3 Try.f3 rfl rfl rfl rfl rfl rfl rfl ⟨rfl, rfl, rfl, rfl, rfl⟩ rfl rfl rfl rfl rfl (by kernel_rfl) Try.func3 (by kernel_rfl)
    (of_decide_eq_true (by kernel_rfl)) (by unfold Func.isWrapper; first | (rw [if_pos (by decide +kernel)]; kernel_rfl) | (rw [if_neg (by decide +kernel)]; exact ⟨rfl, rfl⟩))
    (fun os started H enc _ => lifted os started H enc)

/-- THE STATEMENT -/
theorem proved : Rows.ValidPartsSaid := over
#print axioms proved
end Go.Proofs.Ytlokcpfkaijchaa.validParts
