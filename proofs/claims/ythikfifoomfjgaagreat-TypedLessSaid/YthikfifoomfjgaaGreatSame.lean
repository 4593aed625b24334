/- Contract of value.Same: are two messages one tree? -/
import Derived.Test.YthikfifoomfjgaaGreatEq
import Derived.Lib.Strings
namespace Go.Tr
/-- Are they one? -/
noncomputable def same {α : Type} (x y : α) : Bool := @decide (x = y) (Classical.propDecidable _)
theorem same_iff {α : Type} (x y : α) : same x y = true ↔ x = y := by simp [same]
theorem same_bool {α : Type} (x y : α) (b : Bool) (h : b = true ↔ x = y) : b = same x y := by
  rw [Bool.eq_iff_iff, same_iff, h]
theorem eqAll_same {α : Type} (xs ys : List α) : eqAll same xs ys = same xs ys := by
  apply same_bool
  simp only [eqAll, Bool.and_eq_true, decide_eq_true_eq, List.all_eq_true, same_iff]
  constructor
  · rintro ⟨hl, h⟩
    apply List.ext_getElem hl
    intro i h1 h2
    exact h (xs[i], ys[i]) (by rw [List.mem_iff_getElem]; exact ⟨i, by simp; omega, by simp⟩)
  · rintro rfl
    refine ⟨rfl, fun p hp => ?_⟩
    obtain ⟨j, hj, rfl⟩ := List.mem_iff_getElem.1 hp
    simp
theorem rmsg_stands (L B n : Nat) : Stands fun w => RMsg L B w n := fun _ _ _ _ hw h => RMsg.below hw n h
theorem rval_stands (L B n : Nat) : Stands fun w => RVal L B w (RMsg L B w n) := fun _ _ _ _ hw h => h.below hw
theorem rslot_stands (L B n : Nat) : Stands fun w => RSlot L B w (RMsg L B w n) := fun _ _ _ _ hw h => h.below hw
theorem RowOf.oneCell {α : Type} {L B k : Nat} {w : World} {R : List Value → α → Prop} {v : Value} {xs : List α} (h : RowOf L B w k R v xs) : v.oneCell' = true := by
  obtain ⟨a, cap, rfl, -⟩ := h; rfl
theorem rmsg_one (L B n : Nat) : One fun w => RMsg L B w n := by
  intro w cs x h
  cases n with
  | zero => exact h.elim
  | succ n => obtain ⟨c, rfl, h⟩ := h; exact ⟨c, rfl, h.oneCell⟩
theorem rval_three (L B n : Nat) : Three fun w => RVal L B w (RMsg L B w n) := by
  rintro w cs x ⟨c, rfl, -, -, -, h⟩
  exact ⟨_, _, _, rfl, rfl, rfl, h.oneCell⟩
theorem rslot_three (L B n : Nat) : Three fun w => RSlot L B w (RMsg L B w n) := by
  rintro w cs x ⟨c, d, rfl, -, -, h, h'⟩
  exact ⟨_, _, _, rfl, rfl, h.oneCell, h'.oneCell⟩
theorem bytes_same (x y : ByteArray) : decide (x = y) = (x.toList == y.toList) := by
  rw [Bool.eq_iff_iff, decide_eq_true_eq, beq_iff_eq, Lib.toList_data, Lib.toList_data]
  constructor
  · rintro rfl; rfl
  · intro h
    obtain ⟨x⟩ := x
    obtain ⟨y⟩ := y
    simp only at h
    rw [Array.toList_inj.1 h]
theorem same_val (x y : Val) : same x y = (decide (x.n = y.n) && (decide (x.s = y.s) && same x.m y.m)) := by
  symm; apply same_bool
  obtain ⟨a, b, c⟩ := x
  obtain ⟨d, e, f⟩ := y
  simp [same_iff]
theorem same_slot (x y : Slot) : same x y = (decide (x.no = y.no) && (same x.k y.k && same x.v y.v)) := by
  symm; apply same_bool
  obtain ⟨a, b, c⟩ := x
  obtain ⟨d, e, f⟩ := y
  simp [same_iff]
theorem same_msg (x y : Msg) : same x y = same x.f y.f := by
  symm; apply same_bool
  obtain ⟨x⟩ := x
  obtain ⟨y⟩ := y
  simp [same_iff, Msg.f]
end Go.Tr
namespace Go.Proofs.YthikfifoomfjgaaGreat
open Go.RowKit Go.Tr
set_option linter.unusedVariables false
set_option linter.unusedSimpArgs false
def Same1 (L B n : Nat) (K : Nat) (N : Nat) {α : Type} (R : World → List Value → α → Prop) : Prop :=
  ∀ (w : World) (cs ds : List Value) (x y : α), R w cs x → R w ds y → Calls Tryz.prog K #[.agg cs.toArray, .agg ds.toArray] w fun e w' => e = .returned (.bool (same x y)) ∧ Below w.heap.size w w'
section
theorem all_slot {α : Type} (L B : Nat) (hL : L ≤ maxLen) (R : World → List Value → α → Prop) (hR : Stands R) (h3 : Three R) (g : Nat) (eg : ∀ args w, (callFunc g args).run Tryz.prog w = .ok (.enter g args) w)
    (hg : ∀ w cs ds x y, R w cs x → R w ds y → Calls Tryz.prog g #[.agg cs.toArray, .agg ds.toArray] w fun e w' => e = .returned (.bool (same x y)) ∧ Below w.heap.size w w')
    (w : World) (v1 v2 : Value) (xs ys : List α) (hx : RowOf L B w 3 (R w) v1 xs) (hy : RowOf L B w 3 (R w) v2 ys) :
    Calls Tryz.prog 77 #[v1, v2, .func (.func g) #[] #[]] w fun e w' => e = .returned (.bool (same xs ys)) ∧ Below w.heap.size w w' := by
  have HC := Lib.hid (equalFunc_slot L B hL R hR h3 same g eg hg w v1 v2 xs ys hx hy)
  rw [eqAll_same] at HC
  clear hg hx hy
  go_enter Tryz.func77, Tryz.ntmps77
  go_wp2_with (go_at_call 109; (with_reducible refine HC.out.mono ?_); rintro e w' ⟨rfl, b'⟩)
  exact ⟨rfl, _, results_tmp rfl _ _ _, rfl, b'⟩
theorem all_val {α : Type} (L B : Nat) (hL : L ≤ maxLen) (R : World → List Value → α → Prop) (hR : Stands R) (h3 : Three R) (g : Nat) (eg : ∀ args w, (callFunc g args).run Tryz.prog w = .ok (.enter g args) w)
    (hg : ∀ w cs ds x y, R w cs x → R w ds y → Calls Tryz.prog g #[.agg cs.toArray, .agg ds.toArray] w fun e w' => e = .returned (.bool (same x y)) ∧ Below w.heap.size w w')
    (w : World) (v1 v2 : Value) (xs ys : List α) (hx : RowOf L B w 3 (R w) v1 xs) (hy : RowOf L B w 3 (R w) v2 ys) :
    Calls Tryz.prog 79 #[v1, v2, .func (.func g) #[] #[]] w fun e w' => e = .returned (.bool (same xs ys)) ∧ Below w.heap.size w w' := by
  have HC := Lib.hid (equalFunc_val L B hL R hR h3 same g eg hg w v1 v2 xs ys hx hy)
  rw [eqAll_same] at HC
  clear hg hx hy
  go_enter Tryz.func79, Tryz.ntmps79
  go_wp2_with (go_at_call 110; (with_reducible refine HC.out.mono ?_); rintro e w' ⟨rfl, b'⟩)
  exact ⟨rfl, _, results_tmp rfl _ _ _, rfl, b'⟩
theorem all_msg {α : Type} (L B : Nat) (hL : L ≤ maxLen) (R : World → List Value → α → Prop) (hR : Stands R) (h3 : One R) (g : Nat) (eg : ∀ args w, (callFunc g args).run Tryz.prog w = .ok (.enter g args) w)
    (hg : ∀ w cs ds x y, R w cs x → R w ds y → Calls Tryz.prog g #[.agg cs.toArray, .agg ds.toArray] w fun e w' => e = .returned (.bool (same x y)) ∧ Below w.heap.size w w')
    (w : World) (v1 v2 : Value) (xs ys : List α) (hx : RowOf L B w 1 (R w) v1 xs) (hy : RowOf L B w 1 (R w) v2 ys) :
    Calls Tryz.prog 111 #[v1, v2, .func (.func g) #[] #[]] w fun e w' => e = .returned (.bool (same xs ys)) ∧ Below w.heap.size w w' := by
  have HC := Lib.hid (equalFunc_msg L B hL R hR h3 same g eg hg w v1 v2 xs ys hx hy)
  rw [eqAll_same] at HC
  clear hg hx hy
  go_enter Tryz.func111, Tryz.ntmps111
  go_wp2_with (go_at_call 137; (with_reducible refine HC.out.mono ?_); rintro e w' ⟨rfl, b'⟩)
  exact ⟨rfl, _, results_tmp rfl _ _ _, rfl, b'⟩
/-- value.same: two values, where two messages are told. -/
theorem val_same (L B n : Nat) (hL : L ≤ maxLen)
    (hm : ∀ w cs ds x y, RMsg L B w n cs x → RMsg L B w n ds y → Calls Tryz.prog 40 #[.agg cs.toArray, .agg ds.toArray] w fun e w' => e = .returned (.bool (same x y)) ∧ Below w.heap.size w w')
    (w : World) (cs ds : List Value) (x y : Val) (hx : RVal L B w (RMsg L B w n) cs x) (hy : RVal L B w (RMsg L B w n) ds y) :
    Calls Tryz.prog 80 #[.agg cs.toArray, .agg ds.toArray] w fun e w' => e = .returned (.bool (same x y)) ∧ Below w.heap.size w w' := by
  obtain ⟨c, rfl, -, -, -, h4⟩ := hx
  obtain ⟨d, rfl, -, -, -, k4⟩ := hy
  have HM := Lib.hid fun w' (hb : Below w.heap.size w w') => all_msg L B hL _ (rmsg_stands L B n) (rmsg_one L B n) 40 (enters_of Tryz.func40 (by kernel_rfl) rfl) hm w' c d x.m y.m (h4.imp hb fun _ _ _ h => RMsg.below hb n h) (k4.imp hb fun _ _ _ h => RMsg.below hb n h)
  obtain ⟨a1, cap1, rfl, -⟩ := h4
  obtain ⟨a2, cap2, rfl, -⟩ := k4
  rw [same_val]
  clear hm
  rw [bytes_same]
  cases hn : (x.n == y.n) with
  | false =>
    have e1 : decide (x.n = y.n) = false := by simpa using hn
    rw [e1]
    clear HM
    go_enter Tryz.func80, Tryz.ntmps80
    go_wp2
    exact bodyPost_ret (results_tmp rfl _ _ _) rfl ⟨rfl, al2 _ _ _⟩
  | true =>
    have e1 : decide (x.n = y.n) = true := by simpa using hn
    rw [e1]
    cases hs : (x.s.toList == y.s.toList) with
    | false =>
      clear HM
      go_enter Tryz.func80, Tryz.ntmps80
      go_wp2
      exact bodyPost_ret (results_tmp rfl _ _ _) rfl ⟨rfl, al2 _ _ _⟩
    | true =>
      generalize same x.m y.m = b at HM ⊢
      go_enter Tryz.func80, Tryz.ntmps80
      go_wp2_with (go_at_call 111; (with_reducible refine (HM.out _ (al2 _ _ _)).mono ?_); rintro e w' ⟨rfl, b'⟩)
      exact bodyPost_ret (results_tmp rfl _ _ _) rfl ⟨rfl, (al2 _ _ _).nx b'⟩
/-- The function of value.Same: two slots, where two messages are told. -/
theorem slot_same (L B n : Nat) (hL : L ≤ maxLen)
    (hm : ∀ w cs ds x y, RMsg L B w n cs x → RMsg L B w n ds y → Calls Tryz.prog 40 #[.agg cs.toArray, .agg ds.toArray] w fun e w' => e = .returned (.bool (same x y)) ∧ Below w.heap.size w w')
    (w : World) (cs ds : List Value) (x y : Slot) (hx : RSlot L B w (RMsg L B w n) cs x) (hy : RSlot L B w (RMsg L B w n) ds y) :
    Calls Tryz.prog 78 #[.agg cs.toArray, .agg ds.toArray] w fun e w' => e = .returned (.bool (same x y)) ∧ Below w.heap.size w w' := by
  obtain ⟨c, c', rfl, -, -, h4, h5⟩ := hx
  obtain ⟨d, d', rfl, -, -, k4, k5⟩ := hy
  have HV := val_same L B n hL hm
  have HM := Lib.hid fun w' (hb : Below w.heap.size w w') => all_val L B hL _ (rval_stands L B n) (rval_three L B n) 80 (enters_of Tryz.func80 (by kernel_rfl) rfl) HV w' c d x.k y.k (h4.imp hb fun _ _ _ h => h.below hb) (k4.imp hb fun _ _ _ h => h.below hb)
  have HN := Lib.hid fun w' (hb : Below w.heap.size w w') => all_val L B hL _ (rval_stands L B n) (rval_three L B n) 80 (enters_of Tryz.func80 (by kernel_rfl) rfl) HV w' c' d' x.v y.v (h5.imp hb fun _ _ _ h => h.below hb) (k5.imp hb fun _ _ _ h => h.below hb)
  obtain ⟨a1, cap1, rfl, -⟩ := h4
  obtain ⟨a2, cap2, rfl, -⟩ := h5
  obtain ⟨a3, cap3, rfl, -⟩ := k4
  obtain ⟨a4, cap4, rfl, -⟩ := k5
  rw [same_slot]
  clear hm HV
  cases hn : (x.no == y.no) with
  | false =>
    have e1 : decide (x.no = y.no) = false := by simpa using hn
    rw [e1]
    clear HM HN
    go_enter Tryz.func78, Tryz.ntmps78
    go_wp2
    exact bodyPost_ret (results_tmp rfl _ _ _) rfl ⟨rfl, al2 _ _ _⟩
  | true =>
    have e1 : decide (x.no = y.no) = true := by simpa using hn
    rw [e1]
    generalize same x.k y.k = b1 at HM ⊢
    generalize same x.v y.v = b2 at HN ⊢
    cases b1 with
    | false =>
      clear HN
      go_enter Tryz.func78, Tryz.ntmps78
      go_wp2_with (go_at_call 79; (with_reducible refine (HM.out _ (al2 _ _ _)).mono ?_); rintro e w' ⟨rfl, b'⟩)
      exact bodyPost_ret (results_tmp rfl _ _ _) rfl ⟨rfl, (al2 _ _ _).nx b'⟩
    | true =>
      go_enter Tryz.func78, Tryz.ntmps78
      go_wp2_with (go_at_call 79; (first | (with_reducible refine (HM.out _ (al2 _ _ _)).mono ?_); rintro e w' ⟨rfl, b'⟩; have m0 := (b'.cell (p := ⟨w.heap.size, 2, none⟩) (by simp; omega)).trans (show _ = some (Value.slice a2 x.v.length cap2) by simp [go_sem]); have m1 := (b'.cell (p := ⟨w.heap.size + 1, 2, none⟩) (by simp)).trans (show _ = some (Value.slice a4 y.v.length cap4) by simp [go_sem]) | (with_reducible refine (HN.out _ ((al2 _ _ _).nx b')).mono ?_); rintro e v' ⟨rfl, b2⟩))
      exact bodyPost_ret (results_tmp rfl _ _ _) rfl ⟨rfl, ((al2 _ _ _).nx b').nx b2⟩
/-- value.Same. -/
theorem value_same (L B : Nat) (hL : L ≤ maxLen) : ∀ (n : Nat) (w : World) (cs ds : List Value) (x y : Msg), RMsg L B w n cs x → RMsg L B w n ds y →
    Calls Tryz.prog 40 #[.agg cs.toArray, .agg ds.toArray] w fun e w' => e = .returned (.bool (same x y)) ∧ Below w.heap.size w w'
  | 0, _, _, _, _, _, h, _ => h.elim
  | n + 1, w, cs, ds, x, y, hx, hy => by
    have hs := slot_same L B n hL (value_same L B hL n)
    obtain ⟨c, rfl, hx⟩ := hx
    obtain ⟨d, rfl, hy⟩ := hy
    have HM := Lib.hid fun w' (hb : Below w.heap.size w w') => all_slot L B hL _ (rslot_stands L B n) (rslot_three L B n) 78 (enters_of Tryz.func78 (by kernel_rfl) rfl) hs w' c d x.f y.f (hx.imp hb fun _ _ _ h => h.below hb) (hy.imp hb fun _ _ _ h => h.below hb)
    obtain ⟨a1, cap1, rfl, -⟩ := hx
    obtain ⟨a2, cap2, rfl, -⟩ := hy
    rw [same_msg]
    clear hs
    generalize same x.f y.f = b at HM ⊢
    go_enter Tryz.func40, Tryz.ntmps40
    go_wp2_with (go_at_call 77; (with_reducible refine (HM.out _ (al2 _ _ _)).mono ?_); rintro e w' ⟨rfl, b'⟩)
    exact bodyPost_ret (results_tmp rfl _ _ _) rfl ⟨rfl, (al2 _ _ _).nx b'⟩
end
end Go.Proofs.YthikfifoomfjgaaGreat
