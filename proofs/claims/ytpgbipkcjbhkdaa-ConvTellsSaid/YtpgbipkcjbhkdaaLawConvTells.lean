/- The statement ConvTells: for every kind, number and bits conv answers as the reference does; no condition. -/
import Derived.Test.YtpgbipkcjbhkdaaRows
import Derived.WalkKit
import Derived.ProofKit
import Derived.OpenShut
import Derived.Test.YtpgbipkcjbhkdaaConvAwake
import Derived.Test.YtpgbipkcjbhkdaaConvRef
import Derived.ShutString
namespace Go.Proofs.Ytpgbipkcjbhkdaa.convTells
open Go.ChangeShapes Go.WideShapes Go.ChangeAt Go.RowKit
open Go.ChangeMaps (open_string shut_string)
set_option linter.unusedVariables false
set_option linter.unusedSimpArgs false      -- a walk need not use every 'w<i>' (that an integer argument fits its kind)

theorem own : ownKnob Try.prog.godebug = none := by kernel_rfl

/-! ### STEP 1: THE WALK: the Go text returns true. 'Below w.heap.size w w'': the world has at most new blocks (Derived/RowKit3.lean). Part the cases AHEAD of 'go_enter' where a test parts the walk; take each callee by a contract of your own. -/
theorem walk (a0 : Int) (a1 : Int) (a2 : Int) (w0 : (Lit.int .i64 a0).wf = true) (w1 : (Lit.int .i64 a1).wf = true) (w2 : (Lit.int .u64 a2).wf = true) (w : World) :
    Calls Try.prog 10 #[.int .i64 a0, .int .i64 a1, .int .u64 a2] w fun e w' => e = .returned (.bool true) ∧ Below w.heap.size w w' := by
  have hn := bounds_i64 w1
  have hr := bounds_u64 w2
  obtain ⟨n0, n1⟩ := hn
  obtain ⟨r0, r1⟩ := hr
  have h0 := Lib.hid (fun w => conv_awake w)
  have hW := Lib.hid (fun w => conv_wire a0 w)
  have hRW := Lib.hid (fun w => ref_wire a0 w)
  have hF := Lib.hid (fun w => conv_fits a0 a1 n0 (by omega) w)
  have hRF := Lib.hid (fun w => ref_fits a0 a1 n0 (by omega) w)
  rw [rfits_eq a0 a1 n0 (by omega)] at hRF
  have hO : ∃ x b, (∀ w, Calls Try.prog 22 #[.int .i64 a0, .int .u64 a2] w fun e w' => e = .returned (.tuple #[.int .i64 x, .bool b]) ∧ Below w.heap.size w w') ∧ (∀ w, Calls Try.prog 25 #[.int .i64 a0, .int .u64 a2] w fun e w' => e = .returned (.tuple #[.int .i64 x, .bool b]) ∧ w = w') := by
    by_cases hk : a0 < 0 ∨ 7 ≤ a0
    · exact ⟨_, _, fun w => conv_of_out a0 a2 hk w, fun w => ref_of_out a0 a2 hk r0 (by omega) w⟩
    · exact ⟨_, _, fun w => conv_of_in a0 a2 (by omega) (by omega) r0 (by omega) w, fun w => ref_of_in a0 a2 (by omega) (by omega) r0 (by omega) w⟩
  have hB : ∃ x b, (∀ w, Calls Try.prog 26 #[.int .i64 a0, .int .i64 a1] w fun e w' => e = .returned (.tuple #[.int .u64 x, .bool b]) ∧ Below w.heap.size w w') ∧ (∀ w, Calls Try.prog 27 #[.int .i64 a0, .int .i64 a1] w fun e w' => e = .returned (.tuple #[.int .u64 x, .bool b]) ∧ w = w') := by
    by_cases hf : fitsB a0 a1 = true
    · exact ⟨_, _, fun w => conv_bits_yes a0 a1 n0 (by omega) hf w, fun w => ref_bits_yes a0 a1 n0 (by omega) hf w⟩
    · simp only [Bool.not_eq_true] at hf
      exact ⟨_, _, fun w => conv_bits_no a0 a1 n0 (by omega) hf w, fun w => ref_bits_no a0 a1 n0 (by omega) hf w⟩
  obtain ⟨ox, ob, hO1, hO2⟩ := hO
  obtain ⟨bx, bb, hB1, hB2⟩ := hB
  have HO1 := Lib.hid hO1
  have HO2 := Lib.hid hO2
  have HB1 := Lib.hid hB1
  have HB2 := Lib.hid hB2
  clear hO1 hO2 hB1 hB2
  generalize fitsB a0 a1 = fb at hF hRF
  generalize wireOf a0 = wb at hW hRW
  go_enter Try.func10, Try.ntmps10
  go_wp2_with fail
  refine (h0.out _).mono ?_
  rintro e v0 ⟨rfl, b0⟩
  go_wp2_with fail
  refine (HO1.out _).mono ?_
  rintro e v1 ⟨rfl, b1⟩
  go_wp2_with fail
  refine (HO2.out _).mono ?_
  rintro e _ ⟨rfl, rfl⟩
  go_wp2_with fail
  refine (HB1.out _).mono ?_
  rintro e v2 ⟨rfl, b2⟩
  go_wp2_with fail
  refine (HB2.out _).mono ?_
  rintro e _ ⟨rfl, rfl⟩
  go_wp2_with fail
  refine (hW.out _).mono ?_
  rintro e v3 ⟨rfl, b3⟩
  go_wp2_with fail
  refine (hRW.out _).mono ?_
  rintro e _ ⟨rfl, rfl⟩
  go_wp2_with fail
  refine (hF.out _).mono ?_
  rintro e v4 ⟨rfl, b4⟩
  go_wp2_with fail
  refine (hRF.out _).mono ?_
  rintro e _ ⟨rfl, rfl⟩
  go_wp2_with fail
  go_ret
  exact ⟨rfl, (((b0.nx b1).nx b2).nx b3).nx b4⟩

/-! ### THE ROW's STEP: WRITTEN OUT: LEAVE IT -/
set_option maxRecDepth 100000 in
theorem lifted (os : Os) (started : os.Started) (H : Type) (enc : TypeId × Value → H) :
    ReturnsInHanded {} Try.checked os 10 .any (Rows.convTellsSpec.pre6 enc Try.prog Try.f10 Rows.convTellsRow.domain false) (Rows.convTellsSpec.post enc Try.prog Try.f10 false true false false) := by
  refine returnsInHanded_of_change (C := Try.checked) own started (by kernel_rfl) Try.func10
    (ChangeSpec.witness6 (enc := enc) (C := Try.checked) false ⟨#[], #[.int .i64 0, .int .i64 0, .int .u64 0], []⟩ 8 (by kernel_rfl) (by kernel_rfl) (by kernel_rfl) (by kernel_rfl)) ?_
  intro W base args ds gs before hval0 hW hcnd _
  have hval : ∀ (j : Nat) t v, Try.f10.params[j]? = some t → args[j]? = some v → Value.okWide Try.prog W .any base t v := hval0
  have hW' := hW
  obtain ⟨p, q, hA0, hV, rfl, hfz, hnd⟩ := hW
  have hA : DataW.TrodAll enc Try.prog W 0 (fun _ => true) true Try.f10.params.toList args.toList ds p := hA0
  rw [Try.params10] at hA hval
  obtain ⟨v0, vs0, d0, ds0, p0, q0, hargs, rfl, rfl, h0, r0⟩ := trodAll_cons hA
  obtain ⟨v1, vs1, d1, ds1, p1, q1, rfl, rfl, rfl, h1, r1⟩ := trodAll_cons r0
  obtain ⟨v2, vs2, d2, ds2, p2, q2, rfl, rfl, rfl, h2, r2⟩ := trodAll_cons r1
  obtain ⟨rfl, rfl, rfl⟩ := trodAll_nil r2
  obtain rfl : args = #[v0, v1, v2] := by cases args; simp_all
  obtain ⟨rfl, rfl⟩ := trodVars_none hV
  obtain ⟨a0, rfl, rfl, rfl, w0⟩ := open_int Try.underlying3 (hval 0 3 v0 rfl rfl) h0
  obtain ⟨a1, rfl, rfl, rfl, w1⟩ := open_int Try.underlying2 (hval 1 2 v1 rfl rfl) h1
  obtain ⟨a2, rfl, rfl, rfl, w2⟩ := open_int Try.underlying31 (hval 2 31 v2 rfl rfl) h2
  clear hA0 hval0
  simp only [List.append_nil] at hW'
  refine (walk a0 a1 a2 w0 w1 w2 W).mono fun e W' ⟨he, hg⟩ => ?_
  subst he
  exact ⟨_, rfl, _, _, _, [], [], [], hW', (trodAll_cons_mk (shut_bool Try.underlying4 _) trodAll_mk0), (trodAll_cons_mk (shut_int Try.underlying3 w0) (trodAll_cons_mk (shut_int Try.underlying2 w1) (trodAll_cons_mk (shut_int Try.underlying31 w2) trodAll_mk0))), rfl, Below.frame hg _, fun h => by cases h⟩

theorem over : Rows.convTellsRow.holds Try.pinned (OpenSpec.ofChange Rows.convTellsSpec) :=
  OpenClaim.holds_of_wide 10 Try.f10 rfl rfl rfl rfl rfl rfl rfl ⟨rfl, rfl, rfl, rfl, rfl⟩ rfl rfl rfl rfl rfl (by kernel_rfl) Try.func10 (by kernel_rfl)
    (of_decide_eq_true (by kernel_rfl)) (by unfold Func.isWrapper; first | (rw [if_pos (by decide +kernel)]; kernel_rfl) | (rw [if_neg (by decide +kernel)]; exact ⟨rfl, rfl⟩))
    (fun os started H enc _ => lifted os started H enc)

/-- THE STATEMENT -/
theorem proved : Rows.ConvTellsSaid :=
  over
#print axioms proved
end Go.Proofs.Ytpgbipkcjbhkdaa.convTells
