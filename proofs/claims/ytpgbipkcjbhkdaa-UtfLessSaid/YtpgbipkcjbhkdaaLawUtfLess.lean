/- The statement UtfLess: for all texts utf.Less is a strict order of all texts, and the beginning of a text is no greater; no condition. -/
import Derived.Test.YtpgbipkcjbhkdaaRows
import Derived.WalkKit
import Derived.ProofKit
import Derived.OpenShut
import Derived.Test.YtpgbipkcjbhkdaaUtfRef2
import Derived.ShutString
namespace Go.Proofs.Ytpgbipkcjbhkdaa.utfLess
open Go.ChangeShapes Go.WideShapes Go.ChangeAt Go.RowKit
open Go.ChangeMaps (open_string shut_string)
set_option linter.unusedVariables false
set_option linter.unusedSimpArgs false      -- a walk need not use every 'w<i>' (that an integer argument fits its kind)

theorem own : ownKnob Try.prog.godebug = none := by kernel_rfl

open Go.Op
theorem less_irrefl : ∀ a : List UInt8, bytesLess a a = false
  | [] => rfl
  | x :: r => by simp [bytesLess, less_irrefl r]
theorem less_asymm : ∀ a b : List UInt8, bytesLess a b = true → bytesLess b a = false
  | [], [], h => by simp [bytesLess] at h
  | [], _ :: _, _ => rfl
  | _ :: _, [], h => by simp [bytesLess] at h
  | x :: r, y :: s, h => by
    simp only [bytesLess, Bool.or_eq_true, decide_eq_true_eq, Bool.and_eq_true, beq_iff_eq, Bool.or_eq_false_iff, decide_eq_false_iff_not, Bool.and_eq_false_iff, beq_eq_false_iff_ne] at h ⊢
    rcases h with h | ⟨rfl, h⟩
    · refine ⟨fun h' => ?_, .inl fun h' => ?_⟩
      · rw [UInt8.lt_iff_toNat_lt] at h h'; omega
      · subst h'; rw [UInt8.lt_iff_toNat_lt] at h; omega
    · refine ⟨fun h' => ?_, .inr (less_asymm r s h)⟩
      rw [UInt8.lt_iff_toNat_lt] at h'; omega
theorem less_total : ∀ a b : List UInt8, a ≠ b → (bytesLess a b || bytesLess b a) = true
  | [], [], h => absurd rfl h
  | [], _ :: _, _ => rfl
  | _ :: _, [], _ => rfl
  | x :: r, y :: s, h => by
    by_cases e : x = y
    · subst e
      have := less_total r s (fun e => h (by rw [e]))
      simpa [bytesLess] using this
    · have : x < y ∨ y < x := by
        simp only [UInt8.lt_iff_toNat_lt]
        have : x.toNat ≠ y.toNat := fun h => e (UInt8.toNat_inj.1 h)
        omega
      rcases this with h1 | h1 <;> simp [bytesLess, h1]
theorem less_trans : ∀ a b c : List UInt8, bytesLess a b = true → bytesLess b c = true → bytesLess a c = true
  | _, [], _, h, _ => by simp [bytesLess] at h
  | _, _ :: _, [], _, h => by simp [bytesLess] at h
  | [], _ :: _, _ :: _, _, _ => rfl
  | x :: r, y :: s, z :: t, h, k => by
    simp only [bytesLess, Bool.or_eq_true, decide_eq_true_eq, Bool.and_eq_true, beq_iff_eq] at h k ⊢
    rcases h with h | ⟨rfl, h⟩
    · rcases k with k | ⟨rfl, k⟩
      · left; rw [UInt8.lt_iff_toNat_lt] at *; omega
      · exact .inl h
    · rcases k with k | ⟨rfl, k⟩
      · exact .inl k
      · exact .inr ⟨rfl, less_trans r s t h k⟩
theorem less_prefix : ∀ a c : List UInt8, bytesLess (a ++ c) a = false ∧ bytesLess a (a ++ c) = !c.isEmpty
  | [], [] => ⟨rfl, rfl⟩
  | [], _ :: _ => ⟨rfl, rfl⟩
  | x :: r, c => by simp [bytesLess, less_prefix r c]

/-! ### STEP 1: THE WALK: the Go text returns true. 'Below w.heap.size w w'': the world has at most new blocks (Derived/RowKit3.lean). Part the cases AHEAD of 'go_enter' where a test parts the walk; take each callee by a contract of your own. -/
set_option maxHeartbeats 8000000 in
set_option maxRecDepth 100000 in
theorem walk (a0 : ByteArray) (a1 : ByteArray) (a2 : ByteArray) (w0 : a0.size ≤ maxLen) (w1 : a1.size ≤ maxLen) (w2 : a2.size ≤ maxLen) (w : World) :
    Calls Try.prog 7 #[.string a0, .string a1, .string a2] w fun e w' => e = .returned (.bool true) ∧ Below w.heap.size w w' := by
  have h0 := Lib.hid (fun w => utf_awake w)
  have hbig : ¬ (a0.size ≤ 3000 ∧ a1.size ≤ 3000 ∧ a2.size ≤ 3000) →
      Calls Try.prog 7 #[.string a0, .string a1, .string a2] w fun e w' => e = .returned (.bool true) ∧ Below w.heap.size w w' := by
    intro hc
    have hd : 3000 < a0.size ∨ (a0.size ≤ 3000 ∧ 3000 < a1.size) ∨ (a0.size ≤ 3000 ∧ a1.size ≤ 3000 ∧ 3000 < a2.size) := by omega
    clear hc
    rcases hd with q | ⟨q, q2⟩ | ⟨q, q2, q3⟩
    all_goals
      go_enter Try.func7, Try.ntmps7
      go_wp2_with fail
      refine (h0.out _).mono ?_
      rintro e v0 ⟨rfl, b0⟩
      go_wp2_with fail
      go_ret
      exact ⟨rfl, b0⟩
  by_cases hc : a0.size ≤ 3000 ∧ a1.size ≤ 3000 ∧ a2.size ≤ 3000
  · obtain ⟨c0, c1, c2⟩ := hc
    clear hbig
    have d0 : decide (3000 < (a0.size : Int)) = false := by simp; omega
    have d1 : decide (3000 < (a1.size : Int)) = false := by simp; omega
    have d2 : decide (3000 < (a2.size : Int)) = false := by simp; omega
    have hl : (a0 ++ a2).toList = a0.toList ++ a2.toList := by simp [Lib.toList_data]
    have H1 := Lib.hid (fun w => utf_less a0 a1 w)
    have H2 := Lib.hid (fun w => utf_less a1 a0 w)
    have H3 := Lib.hid (fun w => utf_less a1 a2 w)
    have H4 := Lib.hid (fun w => utf_less a0 a2 w)
    have H5 := Lib.hid (fun w => utf_less (a0 ++ a2) a0 w)
    have H6 := Lib.hid (fun w => utf_less a0 (a0 ++ a2) w)
    rw [hl, (less_prefix a0.toList a2.toList).1] at H5
    rw [hl, (less_prefix a0.toList a2.toList).2] at H6
    have f1 := less_asymm a0.toList a1.toList
    have f2 := less_total a0.toList a1.toList
    have f3 := less_trans a0.toList a1.toList a2.toList
    have f4 : a0.toList = a1.toList → bytesLess a0.toList a1.toList = false ∧ bytesLess a1.toList a0.toList = false := by
      intro e; rw [e]; exact ⟨less_irrefl _, less_irrefl _⟩
    clear hl
    generalize bytesLess a0.toList a1.toList = x at *
    generalize bytesLess a1.toList a0.toList = y at *
    generalize bytesLess a1.toList a2.toList = z at *
    generalize bytesLess a0.toList a2.toList = u at *
    have hcase : (x = true ∧ y = false ∧ (a0.toList == a1.toList) = false ∧ (z = false ∨ (z = true ∧ u = true))) ∨ (x = false ∧ y = true ∧ (a0.toList == a1.toList) = false) ∨ (x = false ∧ y = false ∧ (a0.toList == a1.toList) = true) := by
      by_cases e : a0.toList = a1.toList
      · obtain ⟨rfl, rfl⟩ := f4 e
        exact .inr (.inr ⟨rfl, rfl, by simpa using e⟩)
      · have e' : (a0.toList == a1.toList) = false := by simpa using e
        have := f2 e
        cases x
        · simp at this; exact .inr (.inl ⟨rfl, this, e'⟩)
        · refine .inl ⟨rfl, f1 rfl, e', ?_⟩
          cases z
          · exact .inl rfl
          · exact .inr ⟨rfl, f3 rfl rfl⟩
    clear f1 f2 f3 f4
    cases ht : a2.toList.isEmpty
    all_goals
      rw [ht] at H6
      simp only [Bool.not_true, Bool.not_false] at H6
      rcases hcase with ⟨rfl, rfl, he, rfl | ⟨rfl, rfl⟩⟩ | ⟨rfl, rfl, he⟩ | ⟨rfl, rfl, he⟩
      all_goals
        go_enter Try.func7, Try.ntmps7
        go_wp2_with (first
          | (go_at_call 14; refine (h0.out _).mono ?_; rintro e v0 ⟨rfl, b0⟩)
          | (go_at_call 19; (with_reducible refine (H1.out _).mono ?_); rintro e _ ⟨rfl, rfl⟩)
          | (go_at_call 19; (with_reducible refine (H2.out _).mono ?_); rintro e _ ⟨rfl, rfl⟩)
          | (go_at_call 19; (with_reducible refine (H3.out _).mono ?_); rintro e _ ⟨rfl, rfl⟩)
          | (go_at_call 19; (with_reducible refine (H4.out _).mono ?_); rintro e _ ⟨rfl, rfl⟩)
          | (go_at_call 19; (with_reducible refine (H5.out _).mono ?_); rintro e _ ⟨rfl, rfl⟩)
          | (go_at_call 19; (with_reducible refine (H6.out _).mono ?_); rintro e _ ⟨rfl, rfl⟩))
        go_ret
        exact ⟨rfl, b0⟩
  · exact hbig hc

/-! ### THE ROW's STEP: WRITTEN OUT: LEAVE IT -/
set_option maxRecDepth 100000 in
theorem lifted (os : Os) (started : os.Started) (H : Type) (enc : TypeId × Value → H) :
    ReturnsInHanded {} Try.checked os 7 .any (Rows.utfLessSpec.pre6 enc Try.prog Try.f7 Rows.utfLessRow.domain false) (Rows.utfLessSpec.post enc Try.prog Try.f7 false true false false) := by
  refine returnsInHanded_of_change (C := Try.checked) own started (by kernel_rfl) Try.func7
    (ChangeSpec.witness6 (enc := enc) (C := Try.checked) false ⟨#[], #[.string ByteArray.empty, .string ByteArray.empty, .string ByteArray.empty], []⟩ 8 (by kernel_rfl) (by kernel_rfl) (by kernel_rfl) (by kernel_rfl)) ?_
  intro W base args ds gs before hval0 hW hcnd _
  have hval : ∀ (j : Nat) t v, Try.f7.params[j]? = some t → args[j]? = some v → Value.okWide Try.prog W .any base t v := hval0
  have hW' := hW
  obtain ⟨p, q, hA0, hV, rfl, hfz, hnd⟩ := hW
  have hA : DataW.TrodAll enc Try.prog W 0 (fun _ => true) true Try.f7.params.toList args.toList ds p := hA0
  rw [Try.params7] at hA hval
  obtain ⟨v0, vs0, d0, ds0, p0, q0, hargs, rfl, rfl, h0, r0⟩ := trodAll_cons hA
  obtain ⟨v1, vs1, d1, ds1, p1, q1, rfl, rfl, rfl, h1, r1⟩ := trodAll_cons r0
  obtain ⟨v2, vs2, d2, ds2, p2, q2, rfl, rfl, rfl, h2, r2⟩ := trodAll_cons r1
  obtain ⟨rfl, rfl, rfl⟩ := trodAll_nil r2
  obtain rfl : args = #[v0, v1, v2] := by cases args; simp_all
  obtain ⟨rfl, rfl⟩ := trodVars_none hV
  obtain ⟨a0, rfl, rfl, rfl, w0⟩ := open_string Try.underlying9 (hval 0 9 v0 rfl rfl) h0
  obtain ⟨a1, rfl, rfl, rfl, w1⟩ := open_string Try.underlying9 (hval 1 9 v1 rfl rfl) h1
  obtain ⟨a2, rfl, rfl, rfl, w2⟩ := open_string Try.underlying9 (hval 2 9 v2 rfl rfl) h2
  clear hA0 hval0
  simp only [List.append_nil] at hW'
  refine (walk a0 a1 a2 w0 w1 w2 W).mono fun e W' ⟨he, hg⟩ => ?_
  subst he
  exact ⟨_, rfl, _, _, _, [], [], [], hW', (trodAll_cons_mk (shut_bool Try.underlying4 _) trodAll_mk0), (trodAll_cons_mk (shut_string Try.underlying9 w0) (trodAll_cons_mk (shut_string Try.underlying9 w1) (trodAll_cons_mk (shut_string Try.underlying9 w2) trodAll_mk0))), rfl, Below.frame hg _, fun h => by cases h⟩

theorem over : Rows.utfLessRow.holds Try.pinned (OpenSpec.ofChange Rows.utfLessSpec) :=
  OpenClaim.holds_of_wide 7 Try.f7 rfl rfl rfl rfl rfl rfl rfl ⟨rfl, rfl, rfl, rfl, rfl⟩ rfl rfl rfl rfl rfl (by kernel_rfl) Try.func7 (by kernel_rfl)
    (of_decide_eq_true (by kernel_rfl)) (by unfold Func.isWrapper; first | (rw [if_pos (by decide +kernel)]; kernel_rfl) | (rw [if_neg (by decide +kernel)]; exact ⟨rfl, rfl⟩))
    (fun os started H enc _ => lifted os started H enc)

/-- THE STATEMENT -/
theorem proved : Rows.UtfLessSaid :=
  over
#print axioms proved
end Go.Proofs.Ytpgbipkcjbhkdaa.utfLess
