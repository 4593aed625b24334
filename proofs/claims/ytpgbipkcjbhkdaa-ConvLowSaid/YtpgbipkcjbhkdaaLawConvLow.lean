/- The statement ConvLow: for every kind and bits, of kinds of 32 bits the low bits count alone, a Flag is 1 of all but 0; no condition. -/
import Derived.Test.YtpgbipkcjbhkdaaRows
import Derived.WalkKit
import Derived.ProofKit
import Derived.OpenShut
import Derived.Test.YtpgbipkcjbhkdaaConvAwake
import Derived.Test.YtpgbipkcjbhkdaaConvRef
import Derived.ShutString
namespace Go.Proofs.Ytpgbipkcjbhkdaa.convLow
open Go.ChangeShapes Go.WideShapes Go.ChangeAt Go.RowKit
open Go.ChangeMaps (open_string shut_string)
set_option linter.unusedVariables false
set_option linter.unusedSimpArgs false      -- a walk need not use every 'w<i>' (that an integer argument fits its kind)

theorem own : ownKnob Try.prog.godebug = none := by kernel_rfl

/-! ### STEP 1: THE WALK: the Go text returns true. 'Below w.heap.size w w'': the world has at most new blocks (Derived/RowKit3.lean). Part the cases AHEAD of 'go_enter' where a test parts the walk; take each callee by a contract of your own. -/
theorem walk (a0 : Int) (a1 : Int) (a2 : Int) (w0 : (Lit.int .i64 a0).wf = true) (w1 : (Lit.int .u64 a1).wf = true) (w2 : (Lit.int .u64 a2).wf = true) (w : World) :
    Calls Try.prog 8 #[.int .i64 a0, .int .u64 a1, .int .u64 a2] w fun e w' => e = .returned (.bool true) ∧ Below w.heap.size w w' := by
  obtain ⟨k0, k1⟩ := bounds_i64 w0
  obtain ⟨r0, r1⟩ := bounds_u64 w1
  obtain ⟨m0, m1⟩ := bounds_u64 w2
  have hr : 0 ≤ a1 % 4294967296 + a2 % 4294967296 * 4294967296 ∧ a1 % 4294967296 + a2 % 4294967296 * 4294967296 < 18446744073709551616 := by omega
  have h0 := Lib.hid (fun w => conv_awake w)
  have H1 := Lib.hid (fun w => conv_of a0 a1 r0 (by omega) w)
  have H2 := Lib.hid (fun w => conv_of a0 (a1 % 4294967296 + a2 % 4294967296 * 4294967296) hr.1 hr.2 w)
  by_cases ho : a0 < 0 ∨ 7 ≤ a0
  · rw [show ofP a0 a1 = (0, false) by simp [ofP, kindIn]; omega] at H1
    rw [show ofP a0 _ = (0, false) by simp [ofP, kindIn]; omega] at H2
    dsimp only at H1 H2
    have q2 : (a0 == 2) = false := by simp; omega
    have q6 : (a0 == 6) = false := by simp; omega
    have q4 : (a0 == 4) = false := by simp; omega
    have q3 : (a0 != 3) = true := by simp; omega
    have q3' : (a0 == 3) = false := by simp; omega
    rcases ho with ho | ho
    all_goals
      go_enter Try.func8, Try.ntmps8
      go_wp2_with (first
        | (go_at_call 21; refine (h0.out _).mono ?_; rintro e v0 ⟨rfl, b0⟩)
        | (go_at_call 22; (with_reducible refine (H1.out _).mono ?_); rintro e v1 ⟨rfl, b1⟩)
        | (go_at_call 22; (with_reducible refine (H2.out _).mono ?_); rintro e v2 ⟨rfl, b2⟩))
      go_ret
      exact ⟨rfl, ((b0.nx b1).nx b2)⟩
  · have h : a0 = 0 ∨ a0 = 1 ∨ a0 = 2 ∨ a0 = 3 ∨ a0 = 4 ∨ a0 = 5 ∨ a0 = 6 := by omega
    rw [show ofP a0 a1 = (ofN a0 a1, true) by simp [ofP, kindIn]; omega] at H1
    rw [show ofP a0 (a1 % 4294967296 + a2 % 4294967296 * 4294967296) = (ofN a0 (a1 % 4294967296 + a2 % 4294967296 * 4294967296), true) by simp [ofP, kindIn]; omega] at H2
    dsimp only at H1 H2
    have hlow : a0 = 2 ∨ a0 = 4 ∨ a0 = 6 → ofN a0 (a1 % 4294967296 + a2 % 4294967296 * 4294967296) = ofN a0 a1 := by
      rintro (rfl | rfl | rfl)
      all_goals
        have : (a1 % 4294967296 + a2 % 4294967296 * 4294967296) % 4294967296 = a1 % 4294967296 := by omega
        simp [ofN, this]
    have hflag : a0 = 3 → ofN a0 a1 = if a1 = 0 then 0 else 1 := by rintro rfl; simp [ofN]
    generalize ofN a0 a1 = x at H1 hlow hflag
    generalize ofN a0 (a1 % 4294967296 + a2 % 4294967296 * 4294967296) = y at H2 hlow
    clear ho
    by_cases hz : a1 = 0
    all_goals
      rcases h with rfl | rfl | rfl | rfl | rfl | rfl | rfl
      all_goals
        simp only [Int.reduceEq, or_self, or_true, true_or, or_false, false_or, false_implies, true_implies, forall_const, hz, if_true, if_false] at hlow hflag
        try obtain rfl := hlow
        try obtain rfl := hflag
        try clear hlow
        try clear hflag
        first
          | (have hz1 : (a1 == 0) = true := beq_iff_eq.2 hz; have hz2 : (a1 != 0) = false := by simp [bne, hz1])
          | (have hz1 : (a1 == 0) = false := beq_eq_false_iff_ne.2 hz; have hz2 : (a1 != 0) = true := by simp [bne, hz1])
        clear hz
        go_enter Try.func8, Try.ntmps8
        go_wp2_with (first
          | (go_at_call 21; refine (h0.out _).mono ?_; rintro e v0 ⟨rfl, b0⟩)
          | (go_at_call 22; (with_reducible refine (H1.out _).mono ?_); rintro e v1 ⟨rfl, b1⟩)
          | (go_at_call 22; (with_reducible refine (H2.out _).mono ?_); rintro e v2 ⟨rfl, b2⟩))
        go_ret
        exact ⟨rfl, ((b0.nx b1).nx b2)⟩

/-! ### THE ROW's STEP: WRITTEN OUT: LEAVE IT -/
set_option maxRecDepth 100000 in
theorem lifted (os : Os) (started : os.Started) (H : Type) (enc : TypeId × Value → H) :
    ReturnsInHanded {} Try.checked os 8 .any (Rows.convLowSpec.pre6 enc Try.prog Try.f8 Rows.convLowRow.domain false) (Rows.convLowSpec.post enc Try.prog Try.f8 false true false false) := by
  refine returnsInHanded_of_change (C := Try.checked) own started (by kernel_rfl) Try.func8
    (ChangeSpec.witness6 (enc := enc) (C := Try.checked) false ⟨#[], #[.int .i64 0, .int .u64 0, .int .u64 0], []⟩ 8 (by kernel_rfl) (by kernel_rfl) (by kernel_rfl) (by kernel_rfl)) ?_
  intro W base args ds gs before hval0 hW hcnd _
  have hval : ∀ (j : Nat) t v, Try.f8.params[j]? = some t → args[j]? = some v → Value.okWide Try.prog W .any base t v := hval0
  have hW' := hW
  obtain ⟨p, q, hA0, hV, rfl, hfz, hnd⟩ := hW
  have hA : DataW.TrodAll enc Try.prog W 0 (fun _ => true) true Try.f8.params.toList args.toList ds p := hA0
  rw [Try.params8] at hA hval
  obtain ⟨v0, vs0, d0, ds0, p0, q0, hargs, rfl, rfl, h0, r0⟩ := trodAll_cons hA
  obtain ⟨v1, vs1, d1, ds1, p1, q1, rfl, rfl, rfl, h1, r1⟩ := trodAll_cons r0
  obtain ⟨v2, vs2, d2, ds2, p2, q2, rfl, rfl, rfl, h2, r2⟩ := trodAll_cons r1
  obtain ⟨rfl, rfl, rfl⟩ := trodAll_nil r2
  obtain rfl : args = #[v0, v1, v2] := by cases args; simp_all
  obtain ⟨rfl, rfl⟩ := trodVars_none hV
  obtain ⟨a0, rfl, rfl, rfl, w0⟩ := open_int Try.underlying3 (hval 0 3 v0 rfl rfl) h0
  obtain ⟨a1, rfl, rfl, rfl, w1⟩ := open_int Try.underlying31 (hval 1 31 v1 rfl rfl) h1
  obtain ⟨a2, rfl, rfl, rfl, w2⟩ := open_int Try.underlying31 (hval 2 31 v2 rfl rfl) h2
  clear hA0 hval0
  simp only [List.append_nil] at hW'
  refine (walk a0 a1 a2 w0 w1 w2 W).mono fun e W' ⟨he, hg⟩ => ?_
  subst he
  exact ⟨_, rfl, _, _, _, [], [], [], hW', (trodAll_cons_mk (shut_bool Try.underlying4 _) trodAll_mk0), (trodAll_cons_mk (shut_int Try.underlying3 w0) (trodAll_cons_mk (shut_int Try.underlying31 w1) (trodAll_cons_mk (shut_int Try.underlying31 w2) trodAll_mk0))), rfl, Below.frame hg _, fun h => by cases h⟩

theorem over : Rows.convLowRow.holds Try.pinned (OpenSpec.ofChange Rows.convLowSpec) :=
  OpenClaim.holds_of_wide 8 Try.f8 rfl rfl rfl rfl rfl rfl rfl ⟨rfl, rfl, rfl, rfl, rfl⟩ rfl rfl rfl rfl rfl (by kernel_rfl) Try.func8 (by kernel_rfl)
    (of_decide_eq_true (by kernel_rfl)) (by unfold Func.isWrapper; first | (rw [if_pos (by decide +kernel)]; kernel_rfl) | (rw [if_neg (by decide +kernel)]; exact ⟨rfl, rfl⟩))
    (fun os started H enc _ => lifted os started H enc)

/-- THE STATEMENT -/
theorem proved : Rows.ConvLowSaid :=
  over
#print axioms proved
end Go.Proofs.Ytpgbipkcjbhkdaa.convLow
