/- The statement ValueLess: for all three values, of two that differ in number or text one is less, and what is less than what is less is less; no condition. -/
import Derived.Test.YtogcnodgpgiacaaRows
import Derived.WalkKit
import Derived.ProofKit
import Derived.OpenShut
import Derived.ShutString
import Derived.ChangeOld
import Derived.Below
import Derived.SizedLaws
import Derived.ChangeSlices
import Derived.Test.YtogcnodgpgiacaaAwake9
import Derived.Test.YtogcnodgpgiacaaOpen
namespace Go.Proofs.Ytogcnodgpgiacaa.valueLess
open Go.ChangeShapes Go.WideShapes Go.ChangeAt Go.RowKit Go.Tr Go.Proofs.Ytogcnodgpgiacaa
open Go.ChangeMaps (open_string shut_string)
set_option linter.unusedVariables false
set_option linter.unusedSimpArgs false

theorem own : ownKnob Try.prog.godebug = none := by kernel_rfl
theorem laidOut : laidOutB Try.prog = true := by kernel_rfl
open Go.Op
theorem less_irrefl : ∀ a : List UInt8, bytesLess a a = false
  | [] => rfl
  | x :: r => by simp [bytesLess, less_irrefl r]
theorem less_asymm : ∀ a b : List UInt8, bytesLess a b = true → bytesLess b a = false
  | [], [], h => by simp [bytesLess] at h
  | [], _ :: _, _ => rfl
  | _ :: _, [], h => by simp [bytesLess] at h
  | x :: r, y :: s, h => by
    simp only [bytesLess, Bool.or_eq_true, decide_eq_true_eq, Bool.and_eq_true, beq_iff_eq, Bool.or_eq_false_iff, decide_eq_false_iff_not, Bool.and_eq_false_iff, beq_eq_false_iff_ne] at h ⊢
    rcases h with h | ⟨rfl, h⟩
    · refine ⟨fun h' => ?_, .inl fun h' => ?_⟩
      · rw [UInt8.lt_iff_toNat_lt] at h h'; omega
      · subst h'; rw [UInt8.lt_iff_toNat_lt] at h; omega
    · refine ⟨fun h' => ?_, .inr (less_asymm r s h)⟩
      rw [UInt8.lt_iff_toNat_lt] at h'; omega
theorem less_total : ∀ a b : List UInt8, a ≠ b → (bytesLess a b || bytesLess b a) = true
  | [], [], h => absurd rfl h
  | [], _ :: _, _ => rfl
  | _ :: _, [], _ => rfl
  | x :: r, y :: s, h => by
    by_cases e : x = y
    · subst e
      have := less_total r s (fun e => h (by rw [e]))
      simpa [bytesLess] using this
    · have : x < y ∨ y < x := by
        simp only [UInt8.lt_iff_toNat_lt]
        have : x.toNat ≠ y.toNat := fun h => e (UInt8.toNat_inj.1 h)
        omega
      rcases this with h1 | h1 <;> simp [bytesLess, h1]
theorem less_trans : ∀ a b c : List UInt8, bytesLess a b = true → bytesLess b c = true → bytesLess a c = true
  | _, [], _, h, _ => by simp [bytesLess] at h
  | _, _ :: _, [], _, h => by simp [bytesLess] at h
  | [], _ :: _, _ :: _, _, _ => rfl
  | x :: r, y :: s, z :: t, h, k => by
    simp only [bytesLess, Bool.or_eq_true, decide_eq_true_eq, Bool.and_eq_true, beq_iff_eq] at h k ⊢
    rcases h with h | ⟨rfl, h⟩
    · rcases k with k | ⟨rfl, k⟩
      · left; rw [UInt8.lt_iff_toNat_lt] at *; omega
      · exact .inl h
    · rcases k with k | ⟨rfl, k⟩
      · exact .inl k
      · exact .inr ⟨rfl, less_trans r s t h k⟩
theorem less_asym (x y : Val) (h : lessVal x y = true) : lessVal y x = false := by
  unfold lessVal at *
  simp only [Bool.or_eq_true, Bool.and_eq_true, decide_eq_true_eq, Bool.or_eq_false_iff, Bool.and_eq_false_iff, decide_eq_false_iff_not] at *
  rcases h with h | ⟨h1, h2⟩
  · exact ⟨by omega, .inl (by omega)⟩
  · exact ⟨by omega, .inr (less_asymm _ _ h2)⟩
theorem less_both (x y : Val) (h1 : lessVal x y = false) (h2 : lessVal y x = false) : x.n = y.n ∧ (x.s.toList == y.s.toList) = true := by
  unfold lessVal at *
  simp only [Bool.or_eq_false_iff, Bool.and_eq_false_iff, decide_eq_false_iff_not] at *
  have hn : x.n = y.n := by omega
  refine ⟨hn, ?_⟩
  by_cases hs : x.s.toList = y.s.toList
  · simpa using hs
  · have := less_total _ _ hs
    rcases h1.2 with h | h
    · exact absurd hn h
    · rcases h2.2 with h' | h'
      · exact absurd hn.symm h'
      · rw [h, h'] at this; cases this
theorem less_tran (x y z : Val) (h1 : lessVal x y = true) (h2 : lessVal y z = true) : lessVal x z = true := by
  unfold lessVal at *
  simp only [Bool.or_eq_true, Bool.and_eq_true, decide_eq_true_eq] at *
  rcases h1 with h1 | ⟨h1, h1'⟩
  · rcases h2 with h2 | ⟨h2, -⟩ <;> exact .inl (by omega)
  · rcases h2 with h2 | ⟨h2, h2'⟩
    · exact .inl (by omega)
    · exact .inr ⟨by omega, less_trans _ _ _ h1' h2'⟩
theorem less_ne (x y : Val) (h : lessVal x y = true) (hn : x.n = y.n) : (x.s.toList == y.s.toList) = false := by
  unfold lessVal at h
  simp only [Bool.or_eq_true, Bool.and_eq_true, decide_eq_true_eq] at h
  rcases h with h | ⟨-, h⟩
  · omega
  · cases hs : (x.s.toList == y.s.toList) with
    | false => rfl
    | true =>
      have e : x.s.toList = y.s.toList := by simpa using hs
      rw [e, less_irrefl] at h; cases h
theorem less_ne' (x y : Val) (h : lessVal y x = true) (hn : x.n = y.n) : (x.s.toList == y.s.toList) = false := by
  have := less_ne y x h hn.symm
  cases hs : (x.s.toList == y.s.toList) with
  | false => rfl
  | true =>
    have e : x.s.toList = y.s.toList := by simpa using hs
    rw [e] at this; simp at this
/-! THE WALK -/
set_option maxHeartbeats 8000000 in
set_option maxRecDepth 100000 in
theorem walk (n : Nat) (w : World) (cs0 : List Value) (x0 : Val) (h0 : RVal Great 0 w (RMsg Great 0 w n) cs0 x0) (cs1 : List Value) (x1 : Val) (h1 : RVal Great 0 w (RMsg Great 0 w n) cs1 x1) (cs2 : List Value) (x2 : Val) (h2 : RVal Great 0 w (RMsg Great 0 w n) cs2 x2) :
    Calls Try.prog 9 #[.agg cs0.toArray, .agg cs1.toArray, .agg cs2.toArray] w fun e w' => e = .returned (.bool true) ∧ Below w.heap.size w w' := by
  have L01 := Lib.hid fun w' => value_less _ Great 0 w' w _ _ _ _ h0 h1
  have L10 := Lib.hid fun w' => value_less _ Great 0 w' w _ _ _ _ h1 h0
  have L12 := Lib.hid fun w' => value_less _ Great 0 w' w _ _ _ _ h1 h2
  have L02 := Lib.hid fun w' => value_less _ Great 0 w' w _ _ _ _ h0 h2
  have HA := Lib.hid fun w' => Go.Proofs.Ytogcnodgpgiacaa.awake w'
  obtain ⟨c0, rfl, -, -, -, r0⟩ := h0
  obtain ⟨a0, cap0, rfl, -⟩ := r0
  obtain ⟨c1, rfl, -, -, -, r1⟩ := h1
  obtain ⟨a1, cap1, rfl, -⟩ := r1
  obtain ⟨c2, rfl, -, -, -, r2⟩ := h2
  obtain ⟨a2, cap2, rfl, -⟩ := r2
  obtain ⟨X, hX⟩ : ∃ b, b = lessVal x0 x1 := ⟨_, rfl⟩
  obtain ⟨Y, hY⟩ : ∃ b, b = lessVal x1 x0 := ⟨_, rfl⟩
  obtain ⟨Z, hZ⟩ : ∃ b, b = lessVal x1 x2 := ⟨_, rfl⟩
  rw [← hX] at L01
  rw [← hY] at L10
  rw [← hZ] at L12
  have HX := Lib.hid hX
  have HY := Lib.hid hY
  have HZ := Lib.hid hZ
  clear hX hY hZ
  have HP : Hid (∀ w' : World, Below w.heap.size w w' → True) := fun _ _ => trivial
  clear HP
  go_enter Try.func9, Try.ntmps9
  go_wp2_with fail
  refine (HA.out _).mono ?_; rintro e w1 ⟨rfl, b1⟩
  have q0 : Box3 w.heap.size w1 _ _ _ := (((Box3.new w (.int .i64 x0.n) (.string x0.s) (.slice a0 x0.m.length cap0) 38).below (al1 _ _)).below (al1 _ _)).below b1
  have q1 : Box3 (w.heap.size + 1) w1 (.int .i64 x1.n) (.string x1.s) (.slice a1 x1.m.length cap1) := by
    have h := ((Box3.new (w.alloc (.cells #[.int .i64 x0.n, .string x0.s, .slice a0 x0.m.length cap0] 38)) (.int .i64 x1.n) (.string x1.s) (.slice a1 x1.m.length cap1) 38).below (al1 _ _)).below b1
    simpa using h
  have q2 : Box3 (w.heap.size + 1 + 1) w1 (.int .i64 x2.n) (.string x2.s) (.slice a2 x2.m.length cap2) := by
    have h := (Box3.new ((w.alloc (.cells #[.int .i64 x0.n, .string x0.s, .slice a0 x0.m.length cap0] 38)).alloc (.cells #[.int .i64 x1.n, .string x1.s, .slice a1 x1.m.length cap1] 38)) (.int .i64 x2.n) (.string x2.s) (.slice a2 x2.m.length cap2) 38).below b1
    simpa using h
  have B1 := Lib.hid ((((al1 _ _).nx (al1 _ _)).nx (al1 _ _)).nx b1)
  have Q0 := Lib.hid q0
  have Q1 := Lib.hid q1
  have Q2 := Lib.hid q2
  clear b1
  obtain ⟨-, s0, s1, s2⟩ := q0
  obtain ⟨-, t0, t1, t2⟩ := q1
  go_wp2_with fail
  refine (L01.out _).mono ?_; rintro e w2 ⟨rfl, b2⟩
  clear s0 s1 s2 t0 t1 t2 q2
  have B2 := Lib.hid (B1.out.nx b2)
  have P0 := Lib.hid (Q0.out.below b2)
  have P1 := Lib.hid (Q1.out.below b2)
  have P2 := Lib.hid (Q2.out.below b2)
  clear b2 Q0 Q1 Q2 B1
  obtain ⟨-, s0, s1, s2⟩ := P0.out
  obtain ⟨-, t0, t1, t2⟩ := P1.out
  go_wp2_with fail
  refine (L10.out _).mono ?_; rintro e w3 ⟨rfl, b3⟩
  clear s0 s1 s2 t0 t1 t2
  have B3 := Lib.hid (B2.out.nx b3)
  have R0 := Lib.hid (P0.out.below b3)
  have R1 := Lib.hid (P1.out.below b3)
  have R2 := Lib.hid (P2.out.below b3)
  clear b3 P0 P1 P2 B2
  obtain ⟨l0, s0, s1, s2⟩ := R0.out
  obtain ⟨l1, t0, t1, t2⟩ := R1.out
  obtain ⟨l2, u0, u1, u2⟩ := R2.out
  have hxy : ¬ (X = true ∧ Y = true) := by
    rintro ⟨hx, hy⟩
    have h1 := HX.out.symm.trans hx
    have h2 := HY.out.symm.trans hy
    rw [less_asym _ _ h1] at h2; cases h2
  cases X with
  | true =>
    cases Y with
    | true => exact absurd ⟨rfl, rfl⟩ hxy
    | false =>
      clear hxy
      have hne := less_ne x0 x1 HX.out.symm
      have HNE := Lib.hid hne
      clear hne
      cases hn : (x0.n != x1.n) with
      | true =>
        cases Z with
        | false =>
          go_wp2_with fail
          refine (L12.out _).mono ?_; rintro e w4 ⟨rfl, b4⟩
          go_wp2_with fail
          exact ⟨rfl, _, results_tmp (t := 6) rfl _ _ _, rfl, B3.out.nx b4⟩
        | true =>
          have HT := less_tran _ _ _ HX.out.symm HZ.out.symm
          rw [HT] at L02
          clear HT
          go_wp2_with fail
          refine (L12.out _).mono ?_; rintro e w4 ⟨rfl, b4⟩
          obtain ⟨-, s0, s1, s2⟩ := R0.out.below b4
          obtain ⟨-, u0, u1, u2⟩ := R2.out.below b4
          go_wp2_with fail
          refine (L02.out _).mono ?_; rintro e w5 ⟨rfl, b5⟩
          go_wp2_with fail
          exact ⟨rfl, _, results_tmp (t := 6) rfl _ _ _, rfl, (B3.out.nx b4).nx b5⟩
      | false =>
        have hs := HNE.out (by simpa using hn)
        cases Z with
        | false =>
          go_wp2_with fail
          refine (L12.out _).mono ?_; rintro e w4 ⟨rfl, b4⟩
          go_wp2_with fail
          exact ⟨rfl, _, results_tmp (t := 6) rfl _ _ _, rfl, B3.out.nx b4⟩
        | true =>
          have HT := less_tran _ _ _ HX.out.symm HZ.out.symm
          rw [HT] at L02
          clear HT
          go_wp2_with fail
          refine (L12.out _).mono ?_; rintro e w4 ⟨rfl, b4⟩
          obtain ⟨-, s0, s1, s2⟩ := R0.out.below b4
          obtain ⟨-, u0, u1, u2⟩ := R2.out.below b4
          go_wp2_with fail
          refine (L02.out _).mono ?_; rintro e w5 ⟨rfl, b5⟩
          go_wp2_with fail
          exact ⟨rfl, _, results_tmp (t := 6) rfl _ _ _, rfl, (B3.out.nx b4).nx b5⟩
  | false =>
    cases Y with
    | true =>
      clear hxy
      have hne := less_ne' x0 x1 HY.out.symm
      have HNE := Lib.hid hne
      clear hne
      cases hn : (x0.n != x1.n) with
      | true =>
        go_wp2_with fail
        exact ⟨rfl, _, results_tmp (t := 6) rfl _ _ _, rfl, B3.out⟩
      | false =>
        have hs := HNE.out (by simpa using hn)
        go_wp2_with fail
        exact ⟨rfl, _, results_tmp (t := 6) rfl _ _ _, rfl, B3.out⟩
    | false =>
      clear hxy
      obtain ⟨hn, hs⟩ := less_both x0 x1 HX.out.symm HY.out.symm
      have hn' : (x0.n != x1.n) = false := by rw [hn]; simp
      clear hn
      go_wp2_with fail
      exact ⟨rfl, _, results_tmp (t := 6) rfl _ _ _, rfl, B3.out⟩

/-! THE ROW -/
set_option maxRecDepth 100000 in
theorem lifted (os : Os) (started : os.Started) (H : Type) (enc : TypeId × Value → H) :
    ReturnsInHanded {} Try.checked os 9 .any (Rows.valueLessSpec.pre6 enc Try.prog Try.f9 Rows.valueLessRow.domain false) (Rows.valueLessSpec.post enc Try.prog Try.f9 false true false false) := by
  refine returnsInHanded_of_change_sized (C := Try.checked) own started (by kernel_rfl) Try.func9
    (ChangeSpec.witness6 (enc := enc) (C := Try.checked) false ⟨#[], #[.agg #[.int .i64 0, .string ByteArray.empty, .slice none 0 0], .agg #[.int .i64 0, .string ByteArray.empty, .slice none 0 0], .agg #[.int .i64 0, .string ByteArray.empty, .slice none 0 0]], []⟩ 8 (by kernel_rfl) (by kernel_rfl) (by kernel_rfl) (by kernel_rfl)) ?_
  intro W base args ds gs before hval0 hW hcnd hsz0 _
  have hsz : (DataW.weightsEach Try.prog (Try.f9.params.toList ++ Rows.valueLessSpec.plain.varTypes Try.prog) (ds ++ gs)).all (· ≤ reachBytes) = true := hsz0
  have hval : ∀ (j : Nat) t v, Try.f9.params[j]? = some t → args[j]? = some v → Value.okWide Try.prog W .any base t v := hval0
  have hW' := hW
  obtain ⟨p, q, hA0, hV, rfl, hfz, hnd⟩ := hW
  have hA : DataW.TrodAll enc Try.prog W 0 (fun _ => true) true Try.f9.params.toList args.toList ds p := hA0
  rw [Try.params9] at hA hval hsz
  obtain ⟨v0, vs0, d0, ds0, p0, q0, hargs, rfl, rfl, h0, r0⟩ := trodAll_cons hA
  obtain ⟨v1, vs1, d1, ds1, p1, q1, rfl, rfl, rfl, h1, r1⟩ := trodAll_cons r0
  obtain ⟨v2, vs2, d2, ds2, p2, q2, rfl, rfl, rfl, h2, r2⟩ := trodAll_cons r1
  obtain ⟨rfl, rfl, rfl⟩ := trodAll_nil r2
  obtain rfl : args = #[v0, v1, v2] := by cases args; simp_all
  obtain ⟨rfl, rfl⟩ := trodVars_none hV
  have k0 := h0
  have lt0 : ∀ x ∈ p0, x.block < W.heap.size := by obtain ⟨m, hm⟩ := k0; exact DataW.trod_lt m _ _ _ hm
  have hw0 : ∀ z ∈ d0.weights Try.prog 38, z ≤ reachBytes := fun z hz => by simpa using List.all_eq_true.1 hsz z (DataW.weights_mem_each (j := 0) rfl rfl z hz)
  obtain ⟨c0, rfl, -⟩ := okWide_struct Try.underlying38 (hval 0 38 v0 rfl rfl)
  obtain ⟨fuel0, hf0⟩ := h0
  obtain ⟨x0, g0⟩ : ∃ x, RVal Great 0 W (RMsg Great 0 W fuel0) c0.toList x := open_val (fun m _ => open_msg m) hf0 hw0
  have k1 := h1
  have lt1 : ∀ x ∈ p1, x.block < W.heap.size := by obtain ⟨m, hm⟩ := k1; exact DataW.trod_lt m _ _ _ hm
  have hw1 : ∀ z ∈ d1.weights Try.prog 38, z ≤ reachBytes := fun z hz => by simpa using List.all_eq_true.1 hsz z (DataW.weights_mem_each (j := 1) rfl rfl z hz)
  obtain ⟨c1, rfl, -⟩ := okWide_struct Try.underlying38 (hval 1 38 v1 rfl rfl)
  obtain ⟨fuel1, hf1⟩ := h1
  obtain ⟨x1, g1⟩ : ∃ x, RVal Great 0 W (RMsg Great 0 W fuel1) c1.toList x := open_val (fun m _ => open_msg m) hf1 hw1
  have k2 := h2
  have lt2 : ∀ x ∈ p2, x.block < W.heap.size := by obtain ⟨m, hm⟩ := k2; exact DataW.trod_lt m _ _ _ hm
  have hw2 : ∀ z ∈ d2.weights Try.prog 38, z ≤ reachBytes := fun z hz => by simpa using List.all_eq_true.1 hsz z (DataW.weights_mem_each (j := 2) rfl rfl z hz)
  obtain ⟨c2, rfl, -⟩ := okWide_struct Try.underlying38 (hval 2 38 v2 rfl rfl)
  obtain ⟨fuel2, hf2⟩ := h2
  obtain ⟨x2, g2⟩ : ∃ x, RVal Great 0 W (RMsg Great 0 W fuel2) c2.toList x := open_val (fun m _ => open_msg m) hf2 hw2
  clear hA0 hval0 hsz0 hsz
  refine (walk (fuel0 + fuel1 + fuel2) W c0.toList x0 (g0.keep (Nat.le_refl _) (by omega) (Keeps.refl _ _)) c1.toList x1 (g1.keep (Nat.le_refl _) (by omega) (Keeps.refl _ _)) c2.toList x2 (g2.keep (Nat.le_refl _) (by omega) (Keeps.refl _ _))).mono fun e W' ⟨he, bel⟩ => ?_
  subst he
  exact ⟨_, rfl, _, _, _, [], _, [], hW', trodAll_mk1 (shut_bool Try.underlying4 _), (trodAll_cons_mk (Below.trod laidOut (by kernel_rfl) (of_decide_eq_true (by kernel_rfl)) k0 bel lt0) (trodAll_cons_mk (Below.trod laidOut (by kernel_rfl) (of_decide_eq_true (by kernel_rfl)) k1 bel lt1) (trodAll_cons_mk (Below.trod laidOut (by kernel_rfl) (of_decide_eq_true (by kernel_rfl)) k2 bel lt2) trodAll_mk0))), rfl, bel.frame _, fun h => by cases h⟩

theorem over : Rows.valueLessRow.holds Try.pinned (OpenSpec.ofChange Rows.valueLessSpec) :=
  OpenClaim.holds_of_wide 9 Try.f9 rfl rfl rfl rfl rfl rfl rfl ⟨rfl, rfl, rfl, rfl, rfl⟩ rfl rfl rfl rfl rfl (by kernel_rfl) Try.func9 (by kernel_rfl)
    (of_decide_eq_true (by kernel_rfl)) (by unfold Func.isWrapper; first | (rw [if_pos (by decide +kernel)]; kernel_rfl) | (rw [if_neg (by decide +kernel)]; exact ⟨rfl, rfl⟩))
    (fun os started H enc _ => lifted os started H enc)

/-- THE STATEMENT -/
theorem proved : Rows.ValueLessSaid := over
#print axioms proved
end Go.Proofs.Ytogcnodgpgiacaa.valueLess
