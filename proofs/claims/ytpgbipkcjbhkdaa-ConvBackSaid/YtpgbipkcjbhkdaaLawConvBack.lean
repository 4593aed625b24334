/- The statement ConvBack: for every kind, number and bits, what fits comes back; no condition. -/
import Derived.Test.YtpgbipkcjbhkdaaRows
import Derived.WalkKit
import Derived.ProofKit
import Derived.OpenShut
import Derived.Test.YtpgbipkcjbhkdaaConvAwake
import Derived.Test.YtpgbipkcjbhkdaaConvRef
import Derived.ShutString
namespace Go.Proofs.Ytpgbipkcjbhkdaa.convBack
open Go.ChangeShapes Go.WideShapes Go.ChangeAt Go.RowKit
open Go.ChangeMaps (open_string shut_string)
set_option linter.unusedVariables false
set_option linter.unusedSimpArgs false      -- a walk need not use every 'w<i>' (that an integer argument fits its kind)

theorem own : ownKnob Try.prog.godebug = none := by kernel_rfl

/-! ### STEP 1: THE WALK: the Go text returns true. 'Below w.heap.size w w'': the world has at most new blocks (Derived/RowKit3.lean). Part the cases AHEAD of 'go_enter' where a test parts the walk; take each callee by a contract of your own. -/
theorem walk (a0 : Int) (a1 : Int) (a2 : Int) (w0 : (Lit.int .i64 a0).wf = true) (w1 : (Lit.int .i64 a1).wf = true) (w2 : (Lit.int .u64 a2).wf = true) (w : World) :
    Calls Try.prog 11 #[.int .i64 a0, .int .i64 a1, .int .u64 a2] w fun e w' => e = .returned (.bool true) ∧ Below w.heap.size w w' := by
  obtain ⟨n0, n1⟩ := bounds_i64 w1
  obtain ⟨r0, r1⟩ := bounds_u64 w2
  have hb := bitsP_range a0 a1 n0 (by omega)
  have hv := ofP_range a0 a2 r0 (by omega)
  have hc := bitsP_range a0 (ofP a0 a2).1 hv.1 hv.2
  have f1 := back_bits a0 a1
  have f2 := back_of a0 a2 r0 (by omega)
  have h0 := Lib.hid (fun w => conv_awake w)
  have H1 := Lib.hid (fun w => conv_bits a0 a1 n0 (by omega) w)
  have H2 := Lib.hid (fun w => conv_of a0 (bitsP a0 a1).1 hb.1 hb.2 w)
  have H3 := Lib.hid (fun w => conv_fits a0 a1 n0 (by omega) w)
  have H4 := Lib.hid (fun w => conv_of a0 a2 r0 (by omega) w)
  have H5 := Lib.hid (fun w => conv_bits a0 (ofP a0 a2).1 hv.1 hv.2 w)
  have H6 := Lib.hid (fun w => conv_of a0 (bitsP a0 (ofP a0 a2).1).1 hc.1 hc.2 w)
  rw [← bitsP_snd a0 a1] at H3
  generalize bitsP a0 a1 = p1 at H1 H2 H3 f1 hb
  obtain ⟨b, is⟩ := p1
  dsimp only at H1 H2 H3 f1 hb
  generalize ofP a0 b = p2 at H2 f1
  obtain ⟨m, ok⟩ := p2
  generalize ofP a0 a2 = p3 at H4 H5 H6 f2 hv hc
  obtain ⟨v, has⟩ := p3
  dsimp only at H4 H5 H6 f2 hv hc
  generalize bitsP a0 v = p4 at H5 H6 f2 hc
  obtain ⟨c, fits⟩ := p4
  dsimp only at H5 H6 f2 hc
  generalize ofP a0 c = p5 at H6 f2
  obtain ⟨u, again⟩ := p5
  dsimp only at H1 H2 H3 H4 H5 H6 f1 f2
  clear hb hv hc
  cases is <;> cases has
  all_goals
    simp only [Bool.false_eq_true, false_implies, true_implies, Prod.mk.injEq, forall_const] at f1 f2
    try obtain ⟨rfl, rfl⟩ := f1
    try obtain ⟨rfl, rfl, rfl⟩ := f2
    go_enter Try.func11, Try.ntmps11
    go_wp2_with (first
      | (go_at_call 21; refine (h0.out _).mono ?_; rintro e v0 ⟨rfl, b0⟩)
      | (go_at_call 24; refine (H3.out _).mono ?_; rintro e v3 ⟨rfl, b3⟩)
      | (go_at_call 26; (with_reducible refine (H1.out _).mono ?_); rintro e v1 ⟨rfl, b1⟩)
      | (go_at_call 26; (with_reducible refine (H5.out _).mono ?_); rintro e v5 ⟨rfl, b5⟩)
      | (go_at_call 22; (with_reducible refine (H2.out _).mono ?_); rintro e v2 ⟨rfl, b2⟩)
      | (go_at_call 22; (with_reducible refine (H4.out _).mono ?_); rintro e v4 ⟨rfl, b4⟩)
      | (go_at_call 22; (with_reducible refine (H6.out _).mono ?_); rintro e v6 ⟨rfl, b6⟩))
    go_ret
    exact ⟨rfl, by first | exact ((((((b0.nx b1).nx b2).nx b3).nx b4).nx b5).nx b6)⟩

/-! ### THE ROW's STEP: WRITTEN OUT: LEAVE IT -/
set_option maxRecDepth 100000 in
theorem lifted (os : Os) (started : os.Started) (H : Type) (enc : TypeId × Value → H) :
    ReturnsInHanded {} Try.checked os 11 .any (Rows.convBackSpec.pre6 enc Try.prog Try.f11 Rows.convBackRow.domain false) (Rows.convBackSpec.post enc Try.prog Try.f11 false true false false) := by
  refine returnsInHanded_of_change (C := Try.checked) own started (by kernel_rfl) Try.func11
    (ChangeSpec.witness6 (enc := enc) (C := Try.checked) false ⟨#[], #[.int .i64 0, .int .i64 0, .int .u64 0], []⟩ 8 (by kernel_rfl) (by kernel_rfl) (by kernel_rfl) (by kernel_rfl)) ?_
  intro W base args ds gs before hval0 hW hcnd _
  have hval : ∀ (j : Nat) t v, Try.f11.params[j]? = some t → args[j]? = some v → Value.okWide Try.prog W .any base t v := hval0
  have hW' := hW
  obtain ⟨p, q, hA0, hV, rfl, hfz, hnd⟩ := hW
  have hA : DataW.TrodAll enc Try.prog W 0 (fun _ => true) true Try.f11.params.toList args.toList ds p := hA0
  rw [Try.params11] at hA hval
  obtain ⟨v0, vs0, d0, ds0, p0, q0, hargs, rfl, rfl, h0, r0⟩ := trodAll_cons hA
  obtain ⟨v1, vs1, d1, ds1, p1, q1, rfl, rfl, rfl, h1, r1⟩ := trodAll_cons r0
  obtain ⟨v2, vs2, d2, ds2, p2, q2, rfl, rfl, rfl, h2, r2⟩ := trodAll_cons r1
  obtain ⟨rfl, rfl, rfl⟩ := trodAll_nil r2
  obtain rfl : args = #[v0, v1, v2] := by cases args; simp_all
  obtain ⟨rfl, rfl⟩ := trodVars_none hV
  obtain ⟨a0, rfl, rfl, rfl, w0⟩ := open_int Try.underlying3 (hval 0 3 v0 rfl rfl) h0
  obtain ⟨a1, rfl, rfl, rfl, w1⟩ := open_int Try.underlying2 (hval 1 2 v1 rfl rfl) h1
  obtain ⟨a2, rfl, rfl, rfl, w2⟩ := open_int Try.underlying31 (hval 2 31 v2 rfl rfl) h2
  clear hA0 hval0
  simp only [List.append_nil] at hW'
  refine (walk a0 a1 a2 w0 w1 w2 W).mono fun e W' ⟨he, hg⟩ => ?_
  subst he
  exact ⟨_, rfl, _, _, _, [], [], [], hW', (trodAll_cons_mk (shut_bool Try.underlying4 _) trodAll_mk0), (trodAll_cons_mk (shut_int Try.underlying3 w0) (trodAll_cons_mk (shut_int Try.underlying2 w1) (trodAll_cons_mk (shut_int Try.underlying31 w2) trodAll_mk0))), rfl, Below.frame hg _, fun h => by cases h⟩

theorem over : Rows.convBackRow.holds Try.pinned (OpenSpec.ofChange Rows.convBackSpec) :=
  OpenClaim.holds_of_wide 11 Try.f11 rfl rfl rfl rfl rfl rfl rfl ⟨rfl, rfl, rfl, rfl, rfl⟩ rfl rfl rfl rfl rfl (by kernel_rfl) Try.func11 (by kernel_rfl)
    (of_decide_eq_true (by kernel_rfl)) (by unfold Func.isWrapper; first | (rw [if_pos (by decide +kernel)]; kernel_rfl) | (rw [if_neg (by decide +kernel)]; exact ⟨rfl, rfl⟩))
    (fun os started H enc _ => lifted os started H enc)

/-- THE STATEMENT -/
theorem proved : Rows.ConvBackSaid :=
  over
#print axioms proved
end Go.Proofs.Ytpgbipkcjbhkdaa.convBack
