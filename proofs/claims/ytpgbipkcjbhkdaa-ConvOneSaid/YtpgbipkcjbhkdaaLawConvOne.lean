/- The statement ConvOne: for every kind and two numbers, no two that fit have the same bits; no condition. -/
import Derived.Test.YtpgbipkcjbhkdaaRows
import Derived.WalkKit
import Derived.ProofKit
import Derived.OpenShut
import Derived.Test.YtpgbipkcjbhkdaaConvAwake
import Derived.Test.YtpgbipkcjbhkdaaConvRef
import Derived.ShutString
namespace Go.Proofs.Ytpgbipkcjbhkdaa.convOne
open Go.ChangeShapes Go.WideShapes Go.ChangeAt Go.RowKit
open Go.ChangeMaps (open_string shut_string)
set_option linter.unusedVariables false
set_option linter.unusedSimpArgs false      -- a walk need not use every 'w<i>' (that an integer argument fits its kind)

theorem own : ownKnob Try.prog.godebug = none := by kernel_rfl

/-! ### STEP 1: THE WALK: the Go text returns true. 'Below w.heap.size w w'': the world has at most new blocks (Derived/RowKit3.lean). Part the cases AHEAD of 'go_enter' where a test parts the walk; take each callee by a contract of your own. -/
set_option maxHeartbeats 8000000 in
set_option maxRecDepth 100000 in
theorem walk (a0 : Int) (a1 : Int) (a2 : Int) (w0 : (Lit.int .i64 a0).wf = true) (w1 : (Lit.int .i64 a1).wf = true) (w2 : (Lit.int .i64 a2).wf = true) (w : World) :
    Calls Try.prog 13 #[.int .i64 a0, .int .i64 a1, .int .i64 a2] w fun e w' => e = .returned (.bool true) ∧ Below w.heap.size w w' := by
  obtain ⟨k0, k1⟩ := bounds_i64 w0
  obtain ⟨n0, n1⟩ := bounds_i64 w1
  obtain ⟨m0, m1⟩ := bounds_i64 w2
  have h0 := Lib.hid (fun w => conv_awake w)
  have H1 := Lib.hid (fun w => conv_bits a0 a1 n0 (by omega) w)
  have H2 := Lib.hid (fun w => conv_bits a0 a2 m0 (by omega) w)
  have f1 := back_bits a0 a1
  have f2 := back_bits a0 a2
  have hu : (bitsP a0 a1).2 = true → a0 = 1 ∨ a1 < 0 ∨ (bitsP a0 a1).1 = a1 := by
    intro h
    rw [bitsP_snd] at h
    by_cases h1 : a0 = 1
    · exact .inl h1
    · by_cases h2 : a1 < 0
      · exact .inr (.inl h2)
      · refine .inr (.inr ?_)
        simp [bitsP, h, bitsN, h1, IntKind.wrap_u64]; omega
  have hone : (bitsP a0 a1).2 = true → (bitsP a0 a2).2 = true → ((bitsP a0 a1).1 = (bitsP a0 a2).1 ↔ a1 = a2) := by
    intro g1 g2
    constructor
    · intro h
      have e1 := f1 g1
      have e2 := f2 g2
      rw [h, e2] at e1
      simpa using (congrArg Prod.fst e1).symm
    · rintro rfl; rfl
  clear f1 f2
  have hb1 := bitsP_range a0 a1 n0 (by omega)
  generalize bitsP a0 a1 = p at H1 hu hone hb1
  generalize bitsP a0 a2 = q at H2 hone
  obtain ⟨b, is⟩ := p
  obtain ⟨c, has⟩ := q
  dsimp only at H1 H2 hu hone hb1
  obtain ⟨hb1, hb2⟩ := hb1
  by_cases hz : a1 = a2
  all_goals
    first
      | (have hz1 : (a1 == a2) = true := beq_iff_eq.2 hz)
      | (have hz1 : (a1 == a2) = false := beq_eq_false_iff_ne.2 hz)
    cases is <;> cases has
    all_goals
      simp only [Bool.false_eq_true, false_implies, true_implies, implies_true, forall_const, hz, iff_true, iff_false] at hone
      try (first
        | (have hz2 : (b == c) = true := beq_iff_eq.2 hone)
        | (have hz2 : (b == c) = false := beq_eq_false_iff_ne.2 hone))
      clear hone hz
      simp only [Bool.false_eq_true, false_implies, true_implies, forall_const] at hu
      by_cases ha : a0 = 1
      all_goals
        first
          | (have hk1 : (a0 == 1) = true := beq_iff_eq.2 ha)
          | (have hk1 : (a0 == 1) = false := beq_eq_false_iff_ne.2 ha)
        by_cases hn : a1 < 0
        all_goals
          try simp only [ha, hn, true_or, false_or, or_true] at hu
          clear ha
          try (have hu1 : (b == IntKind.u64.wrap a1) = true := by rw [hu, IntKind.wrap_u64]; simp; omega)
          try (have hu2 : (b == a1) = true := by simp [hu])
          try clear hu
          go_enter Try.func13, Try.ntmps13
          go_wp2_with (first
            | (go_at_call 21; refine (h0.out _).mono ?_; rintro e v0 ⟨rfl, b0⟩)
            | (go_at_call 26; (with_reducible refine (H1.out _).mono ?_); rintro e v1 ⟨rfl, b1⟩)
            | (go_at_call 26; (with_reducible refine (H2.out _).mono ?_); rintro e v2 ⟨rfl, b2⟩))
          go_ret
          exact ⟨rfl, ((b0.nx b1).nx b2)⟩

/-! ### THE ROW's STEP: WRITTEN OUT: LEAVE IT -/
set_option maxRecDepth 100000 in
theorem lifted (os : Os) (started : os.Started) (H : Type) (enc : TypeId × Value → H) :
    ReturnsInHanded {} Try.checked os 13 .any (Rows.convOneSpec.pre6 enc Try.prog Try.f13 Rows.convOneRow.domain false) (Rows.convOneSpec.post enc Try.prog Try.f13 false true false false) := by
  refine returnsInHanded_of_change (C := Try.checked) own started (by kernel_rfl) Try.func13
    (ChangeSpec.witness6 (enc := enc) (C := Try.checked) false ⟨#[], #[.int .i64 0, .int .i64 0, .int .i64 0], []⟩ 8 (by kernel_rfl) (by kernel_rfl) (by kernel_rfl) (by kernel_rfl)) ?_
  intro W base args ds gs before hval0 hW hcnd _
  have hval : ∀ (j : Nat) t v, Try.f13.params[j]? = some t → args[j]? = some v → Value.okWide Try.prog W .any base t v := hval0
  have hW' := hW
  obtain ⟨p, q, hA0, hV, rfl, hfz, hnd⟩ := hW
  have hA : DataW.TrodAll enc Try.prog W 0 (fun _ => true) true Try.f13.params.toList args.toList ds p := hA0
  rw [Try.params13] at hA hval
  obtain ⟨v0, vs0, d0, ds0, p0, q0, hargs, rfl, rfl, h0, r0⟩ := trodAll_cons hA
  obtain ⟨v1, vs1, d1, ds1, p1, q1, rfl, rfl, rfl, h1, r1⟩ := trodAll_cons r0
  obtain ⟨v2, vs2, d2, ds2, p2, q2, rfl, rfl, rfl, h2, r2⟩ := trodAll_cons r1
  obtain ⟨rfl, rfl, rfl⟩ := trodAll_nil r2
  obtain rfl : args = #[v0, v1, v2] := by cases args; simp_all
  obtain ⟨rfl, rfl⟩ := trodVars_none hV
  obtain ⟨a0, rfl, rfl, rfl, w0⟩ := open_int Try.underlying3 (hval 0 3 v0 rfl rfl) h0
  obtain ⟨a1, rfl, rfl, rfl, w1⟩ := open_int Try.underlying2 (hval 1 2 v1 rfl rfl) h1
  obtain ⟨a2, rfl, rfl, rfl, w2⟩ := open_int Try.underlying2 (hval 2 2 v2 rfl rfl) h2
  clear hA0 hval0
  simp only [List.append_nil] at hW'
  refine (walk a0 a1 a2 w0 w1 w2 W).mono fun e W' ⟨he, hg⟩ => ?_
  subst he
  exact ⟨_, rfl, _, _, _, [], [], [], hW', (trodAll_cons_mk (shut_bool Try.underlying4 _) trodAll_mk0), (trodAll_cons_mk (shut_int Try.underlying3 w0) (trodAll_cons_mk (shut_int Try.underlying2 w1) (trodAll_cons_mk (shut_int Try.underlying2 w2) trodAll_mk0))), rfl, Below.frame hg _, fun h => by cases h⟩

theorem over : Rows.convOneRow.holds Try.pinned (OpenSpec.ofChange Rows.convOneSpec) :=
  OpenClaim.holds_of_wide 13 Try.f13 rfl rfl rfl rfl rfl rfl rfl ⟨rfl, rfl, rfl, rfl, rfl⟩ rfl rfl rfl rfl rfl (by kernel_rfl) Try.func13 (by kernel_rfl)
    (of_decide_eq_true (by kernel_rfl)) (by unfold Func.isWrapper; first | (rw [if_pos (by decide +kernel)]; kernel_rfl) | (rw [if_neg (by decide +kernel)]; exact ⟨rfl, rfl⟩))
    (fun os started H enc _ => lifted os started H enc)

/-- THE STATEMENT -/
theorem proved : Rows.ConvOneSaid :=
  over
#print axioms proved
end Go.Proofs.Ytpgbipkcjbhkdaa.convOne
