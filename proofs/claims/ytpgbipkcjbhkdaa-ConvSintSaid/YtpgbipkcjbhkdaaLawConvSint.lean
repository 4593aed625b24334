/- The statement ConvSint: for every number the bits of the kind Sint are small where the number is near 0; no condition. -/
import Derived.Test.YtpgbipkcjbhkdaaRows
import Derived.WalkKit
import Derived.ProofKit
import Derived.OpenShut
import Derived.Test.YtpgbipkcjbhkdaaConvAwake
import Derived.Test.YtpgbipkcjbhkdaaConvRef
import Derived.ShutString
namespace Go.Proofs.Ytpgbipkcjbhkdaa.convSint
open Go.ChangeShapes Go.WideShapes Go.ChangeAt Go.RowKit
open Go.ChangeMaps (open_string shut_string)
set_option linter.unusedVariables false
set_option linter.unusedSimpArgs false      -- a walk need not use every 'w<i>' (that an integer argument fits its kind)

theorem own : ownKnob Try.prog.godebug = none := by kernel_rfl

/-! ### STEP 1: THE WALK: the Go text returns true. 'Below w.heap.size w w'': the world has at most new blocks (Derived/RowKit3.lean). Part the cases AHEAD of 'go_enter' where a test parts the walk; take each callee by a contract of your own. -/
theorem walk (a0 : Int) (w0 : (Lit.int .i64 a0).wf = true) (w : World) :
    Calls Try.prog 12 #[.int .i64 a0] w fun e w' => e = .returned (.bool true) ∧ Below w.heap.size w w' := by
  obtain ⟨n0, n1⟩ := bounds_i64 w0
  have h0 := Lib.hid (fun w => conv_awake w)
  have H1 := Lib.hid (fun w => conv_bits 1 a0 n0 (by omega) w)
  have hf : fitsB 1 a0 = true := by
    rw [← rfits_eq 1 a0 n0 (by omega)]; simp [rfits]
  rw [show bitsP 1 a0 = (sintBits a0, true) by simp [bitsP, hf, bitsN]] at H1
  clear hf
  dsimp only at H1
  by_cases hn : a0 < 0
  · rw [show sintBits a0 = -(2 * a0) - 1 by unfold sintBits; rw [if_neg (by omega)]] at H1
    go_enter Try.func12, Try.ntmps12
    go_wp2_with (first
      | (go_at_call 21; refine (h0.out _).mono ?_; rintro e v0 ⟨rfl, b0⟩)
      | (go_at_call 26; (with_reducible refine (H1.out _).mono ?_); rintro e v1 ⟨rfl, b1⟩))
    go_ret
    exact ⟨by simp; omega, b0.nx b1⟩
  · rw [show sintBits a0 = 2 * a0 by unfold sintBits; rw [if_pos (by omega)]] at H1
    go_enter Try.func12, Try.ntmps12
    go_wp2_with (first
      | (go_at_call 21; refine (h0.out _).mono ?_; rintro e v0 ⟨rfl, b0⟩)
      | (go_at_call 26; (with_reducible refine (H1.out _).mono ?_); rintro e v1 ⟨rfl, b1⟩))
    go_ret
    exact ⟨by simp; omega, b0.nx b1⟩

/-! ### THE ROW's STEP: WRITTEN OUT: LEAVE IT -/
set_option maxRecDepth 100000 in
theorem lifted (os : Os) (started : os.Started) (H : Type) (enc : TypeId × Value → H) :
    ReturnsInHanded {} Try.checked os 12 .any (Rows.convSintSpec.pre6 enc Try.prog Try.f12 Rows.convSintRow.domain false) (Rows.convSintSpec.post enc Try.prog Try.f12 false true false false) := by
  refine returnsInHanded_of_change (C := Try.checked) own started (by kernel_rfl) Try.func12
    (ChangeSpec.witness6 (enc := enc) (C := Try.checked) false ⟨#[], #[.int .i64 0], []⟩ 8 (by kernel_rfl) (by kernel_rfl) (by kernel_rfl) (by kernel_rfl)) ?_
  intro W base args ds gs before hval0 hW hcnd _
  have hval : ∀ (j : Nat) t v, Try.f12.params[j]? = some t → args[j]? = some v → Value.okWide Try.prog W .any base t v := hval0
  have hW' := hW
  obtain ⟨p, q, hA0, hV, rfl, hfz, hnd⟩ := hW
  have hA : DataW.TrodAll enc Try.prog W 0 (fun _ => true) true Try.f12.params.toList args.toList ds p := hA0
  rw [Try.params12] at hA hval
  obtain ⟨v0, vs0, d0, ds0, p0, q0, hargs, rfl, rfl, h0, r0⟩ := trodAll_cons hA
  obtain ⟨rfl, rfl, rfl⟩ := trodAll_nil r0
  obtain rfl : args = #[v0] := by cases args; simp_all
  obtain ⟨rfl, rfl⟩ := trodVars_none hV
  obtain ⟨a0, rfl, rfl, rfl, w0⟩ := open_int Try.underlying2 (hval 0 2 v0 rfl rfl) h0
  clear hA0 hval0
  simp only [List.append_nil] at hW'
  refine (walk a0 w0 W).mono fun e W' ⟨he, hg⟩ => ?_
  subst he
  exact ⟨_, rfl, _, _, _, [], [], [], hW', (trodAll_cons_mk (shut_bool Try.underlying4 _) trodAll_mk0), (trodAll_cons_mk (shut_int Try.underlying2 w0) trodAll_mk0), rfl, Below.frame hg _, fun h => by cases h⟩

theorem over : Rows.convSintRow.holds Try.pinned (OpenSpec.ofChange Rows.convSintSpec) :=
  OpenClaim.holds_of_wide 12 Try.f12 rfl rfl rfl rfl rfl rfl rfl ⟨rfl, rfl, rfl, rfl, rfl⟩ rfl rfl rfl rfl rfl (by kernel_rfl) Try.func12 (by kernel_rfl)
    (of_decide_eq_true (by kernel_rfl)) (by unfold Func.isWrapper; first | (rw [if_pos (by decide +kernel)]; kernel_rfl) | (rw [if_neg (by decide +kernel)]; exact ⟨rfl, rfl⟩))
    (fun os started H enc _ => lifted os started H enc)

/-- THE STATEMENT -/
theorem proved : Rows.ConvSintSaid :=
  over
#print axioms proved
end Go.Proofs.Ytpgbipkcjbhkdaa.convSint
