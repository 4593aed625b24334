/- The statement ConvKinds: for every kind and number, which kinds there are, and which of them count; no condition. -/
import Derived.Test.YtpgbipkcjbhkdaaRows
import Derived.WalkKit
import Derived.ProofKit
import Derived.OpenShut
import Derived.Test.YtpgbipkcjbhkdaaConvAwake
import Derived.Test.YtpgbipkcjbhkdaaConvRef
import Derived.ShutString
namespace Go.Proofs.Ytpgbipkcjbhkdaa.convKinds
open Go.ChangeShapes Go.WideShapes Go.ChangeAt Go.RowKit
open Go.ChangeMaps (open_string shut_string)
set_option linter.unusedVariables false
set_option linter.unusedSimpArgs false      -- a walk need not use every 'w<i>' (that an integer argument fits its kind)

theorem own : ownKnob Try.prog.godebug = none := by kernel_rfl

/-! ### STEP 1: THE WALK: the Go text returns true. 'Below w.heap.size w w'': the world has at most new blocks (Derived/RowKit3.lean). Part the cases AHEAD of 'go_enter' where a test parts the walk; take each callee by a contract of your own. -/
theorem walk (a0 : Int) (a1 : Int) (w0 : (Lit.int .i64 a0).wf = true) (w1 : (Lit.int .i64 a1).wf = true) (w : World) :
    Calls Try.prog 9 #[.int .i64 a0, .int .i64 a1] w fun e w' => e = .returned (.bool true) ∧ Below w.heap.size w w' := by
  obtain ⟨k0, k1⟩ := bounds_i64 w0
  obtain ⟨n0, n1⟩ := bounds_i64 w1
  have h0 := Lib.hid (fun w => conv_awake w)
  have H1 := Lib.hid (fun w => conv_wire a0 w)
  have H2 := Lib.hid (fun w => conv_of a0 0 (by decide) (by decide) w)
  have H3 := Lib.hid (fun w => conv_fits a0 a1 n0 (by omega) w)
  have H4 := Lib.hid (fun w => conv_fits a0 0 (by decide) (by decide) w)
  by_cases ho : a0 < 0 ∨ 10 ≤ a0
  · rw [show wireOf a0 = -1 by simp [wireOf, ho]] at H1
    rw [show ofP a0 0 = (0, false) by simp [ofP, kindIn]; omega] at H2
    rw [show fitsB a0 a1 = false by simp [fitsB, kindIn]; omega] at H3
    rw [show fitsB a0 0 = false by simp [fitsB, kindIn]; omega] at H4
    dsimp only at H2
    rcases ho with ho | ho
    all_goals
      go_enter Try.func9, Try.ntmps9
      go_wp2_with (first
        | (go_at_call 21; refine (h0.out _).mono ?_; rintro e v0 ⟨rfl, b0⟩)
        | (go_at_call 23; refine (H1.out _).mono ?_; rintro e v1 ⟨rfl, b1⟩)
        | (go_at_call 22; (with_reducible refine (H2.out _).mono ?_); rintro e v2 ⟨rfl, b2⟩)
        | (go_at_call 24; (with_reducible refine (H3.out _).mono ?_); rintro e v3 ⟨rfl, b3⟩))
      go_ret
      exact ⟨rfl, (((b0.nx b1).nx b2).nx b3)⟩
  · by_cases hc : 7 ≤ a0
    · have h : a0 = 7 ∨ a0 = 8 ∨ a0 = 9 := by omega
      rw [show fitsB a0 a1 = false by simp [fitsB, kindIn]; omega] at H3
      rw [show fitsB a0 0 = false by simp [fitsB, kindIn]; omega] at H4
      rw [show ofP a0 0 = (0, false) by simp [ofP, kindIn]; omega] at H2
      rw [show wireOf a0 = 2 by unfold wireOf; rw [if_neg (by omega), if_neg (by omega), if_neg (by omega), if_pos (by omega)]] at H1
      dsimp only at H2
      clear ho hc
      rcases h with rfl | rfl | rfl
      all_goals
        go_enter Try.func9, Try.ntmps9
        go_wp2_with (first
          | (go_at_call 21; refine (h0.out _).mono ?_; rintro e v0 ⟨rfl, b0⟩)
          | (go_at_call 23; refine (H1.out _).mono ?_; rintro e v1 ⟨rfl, b1⟩)
          | (go_at_call 22; (with_reducible refine (H2.out _).mono ?_); rintro e v2 ⟨rfl, b2⟩)
          | (go_at_call 24; (with_reducible refine (H4.out _).mono ?_); rintro e v4 ⟨rfl, b4⟩)
          | (go_at_call 24; (with_reducible refine (H3.out _).mono ?_); rintro e v3 ⟨rfl, b3⟩))
        go_ret
        exact ⟨rfl, ((((b0.nx b1).nx b2).nx b3).nx b4)⟩
    · have h : a0 = 0 ∨ a0 = 1 ∨ a0 = 2 ∨ a0 = 3 ∨ a0 = 4 ∨ a0 = 5 ∨ a0 = 6 := by omega
      rw [show fitsB a0 0 = true by rw [← rfits_eq a0 0 (by decide) (by decide)]; rcases h with rfl | rfl | rfl | rfl | rfl | rfl | rfl <;> decide] at H4
      rw [show ofP a0 0 = (ofN a0 0, true) by simp [ofP, kindIn]; omega] at H2
      dsimp only at H2
      generalize ofN a0 0 = z at H2
      clear ho hc
      rcases h with rfl | rfl | rfl | rfl | rfl | rfl | rfl
      all_goals
        simp only [wireOf, Int.reduceEq, Int.reduceLT, Int.reduceLE, or_self, if_true, if_false] at H1
        go_enter Try.func9, Try.ntmps9
        go_wp2_with (first
          | (go_at_call 21; refine (h0.out _).mono ?_; rintro e v0 ⟨rfl, b0⟩)
          | (go_at_call 23; refine (H1.out _).mono ?_; rintro e v1 ⟨rfl, b1⟩)
          | (go_at_call 22; (with_reducible refine (H2.out _).mono ?_); rintro e v2 ⟨rfl, b2⟩)
          | (go_at_call 24; (with_reducible refine (H4.out _).mono ?_); rintro e v4 ⟨rfl, b4⟩))
        go_ret
        exact ⟨rfl, (((b0.nx b1).nx b2).nx b4)⟩

/-! ### THE ROW's STEP: WRITTEN OUT: LEAVE IT -/
set_option maxRecDepth 100000 in
theorem lifted (os : Os) (started : os.Started) (H : Type) (enc : TypeId × Value → H) :
    ReturnsInHanded {} Try.checked os 9 .any (Rows.convKindsSpec.pre6 enc Try.prog Try.f9 Rows.convKindsRow.domain false) (Rows.convKindsSpec.post enc Try.prog Try.f9 false true false false) := by
  refine returnsInHanded_of_change (C := Try.checked) own started (by kernel_rfl) Try.func9
    (ChangeSpec.witness6 (enc := enc) (C := Try.checked) false ⟨#[], #[.int .i64 0, .int .i64 0], []⟩ 8 (by kernel_rfl) (by kernel_rfl) (by kernel_rfl) (by kernel_rfl)) ?_
  intro W base args ds gs before hval0 hW hcnd _
  have hval : ∀ (j : Nat) t v, Try.f9.params[j]? = some t → args[j]? = some v → Value.okWide Try.prog W .any base t v := hval0
  have hW' := hW
  obtain ⟨p, q, hA0, hV, rfl, hfz, hnd⟩ := hW
  have hA : DataW.TrodAll enc Try.prog W 0 (fun _ => true) true Try.f9.params.toList args.toList ds p := hA0
  rw [Try.params9] at hA hval
  obtain ⟨v0, vs0, d0, ds0, p0, q0, hargs, rfl, rfl, h0, r0⟩ := trodAll_cons hA
  obtain ⟨v1, vs1, d1, ds1, p1, q1, rfl, rfl, rfl, h1, r1⟩ := trodAll_cons r0
  obtain ⟨rfl, rfl, rfl⟩ := trodAll_nil r1
  obtain rfl : args = #[v0, v1] := by cases args; simp_all
  obtain ⟨rfl, rfl⟩ := trodVars_none hV
  obtain ⟨a0, rfl, rfl, rfl, w0⟩ := open_int Try.underlying3 (hval 0 3 v0 rfl rfl) h0
  obtain ⟨a1, rfl, rfl, rfl, w1⟩ := open_int Try.underlying2 (hval 1 2 v1 rfl rfl) h1
  clear hA0 hval0
  simp only [List.append_nil] at hW'
  refine (walk a0 a1 w0 w1 W).mono fun e W' ⟨he, hg⟩ => ?_
  subst he
  exact ⟨_, rfl, _, _, _, [], [], [], hW', (trodAll_cons_mk (shut_bool Try.underlying4 _) trodAll_mk0), (trodAll_cons_mk (shut_int Try.underlying3 w0) (trodAll_cons_mk (shut_int Try.underlying2 w1) trodAll_mk0)), rfl, Below.frame hg _, fun h => by cases h⟩

theorem over : Rows.convKindsRow.holds Try.pinned (OpenSpec.ofChange Rows.convKindsSpec) :=
  OpenClaim.holds_of_wide 9 Try.f9 rfl rfl rfl rfl rfl rfl rfl ⟨rfl, rfl, rfl, rfl, rfl⟩ rfl rfl rfl rfl rfl (by kernel_rfl) Try.func9 (by kernel_rfl)
    (of_decide_eq_true (by kernel_rfl)) (by unfold Func.isWrapper; first | (rw [if_pos (by decide +kernel)]; kernel_rfl) | (rw [if_neg (by decide +kernel)]; exact ⟨rfl, rfl⟩))
    (fun os started H enc _ => lifted os started H enc)

/-- THE STATEMENT -/
theorem proved : Rows.ConvKindsSaid :=
  over
#print axioms proved
end Go.Proofs.Ytpgbipkcjbhkdaa.convKinds
