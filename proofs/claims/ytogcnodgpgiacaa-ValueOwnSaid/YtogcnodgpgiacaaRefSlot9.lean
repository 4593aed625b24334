/- Contracts of the reference's Slot and Own of chapter 9: slots and messages of one's own. -/
import Derived.Test.YtogcnodgpgiacaaRefEach9
namespace Go.Proofs.Ytogcnodgpgiacaa
open Go.RowKit Go.Tr
set_option linter.unusedVariables false
set_option linter.unusedSimpArgs false
section
attribute [local go_sem] run_store
set_option maxHeartbeats 4000000 in
theorem slot_step9 (L n : Nat) (hL : L ≤ 1048576)
    (ih : ∀ w cs s, RMsg L 0 w n cs s → Calls Try.prog 16 #[.agg cs.toArray] w fun e w' => ∃ ds, e = .returned (.agg ds.toArray) ∧ RMsg L w.heap.size w' n ds s ∧ Below w.heap.size w w')
    (w : World) (cs : List Value) (x : Slot) (hx : RSlot L 0 w (RMsg L 0 w n) cs x) :
    Calls Try.prog 40 #[.agg cs.toArray] w fun e w' => ∃ ds, e = .returned (.agg ds.toArray) ∧ RSlot L w.heap.size w' (RMsg L w.heap.size w' n) ds x ∧ Below w.heap.size w w' := by
  obtain ⟨c, d, rfl, h1, h2, h3, h4⟩ := hx
  have HK := Lib.hid fun w' (hb : Below w.heap.size w w') => each_step9 L n hL ih w' c x.k (h3.imp hb fun _ _ _ h => h.below hb)
  have HV := Lib.hid fun w' (hb : Below w.heap.size w w') => each_step9 L n hL ih w' d x.v (h4.imp hb fun _ _ _ h => h.below hb)
  have hlen := h3.len
  have hlen2 := h4.len
  obtain ⟨a1, cap1, rfl, -⟩ := h3
  obtain ⟨a2, cap2, rfl, -⟩ := h4
  clear ih
  have H1 := Lib.hid (fun w' (hb : Below w.heap.size w w') (hz : w.heap.size + 2 ≤ w'.heap.size) => (HK.out w' hb).mono (R' := fun e w2 => ∃ a3 cap3, e = .returned (.slice a3 x.k.length cap3) ∧ RowOf L (w.heap.size + 2) w2 3 (RVal L (w.heap.size + 2) w2 (RMsg L (w.heap.size + 2) w2 n)) (.slice a3 x.k.length cap3) x.k ∧ Below w'.heap.size w' w2) (by
    rintro e w2 ⟨v', rfl, hv, b'⟩
    have hr := hv.gen (L' := L) (B' := w.heap.size + 2) (R' := RVal L (w.heap.size + 2) w2 (RMsg L (w.heap.size + 2) w2 n)) hlen hz (Keeps.refl _ _) fun _ _ _ h => h.keep hz (Nat.le_refl _) (Keeps.refl _ _)
    have HR := Lib.hid hr
    obtain ⟨a3, cap3, rfl, -⟩ := hr
    exact ⟨_, _, rfl, HR.out, b'⟩))
  have H2 := Lib.hid (fun w' (hb : Below w.heap.size w w') (hz : w.heap.size + 2 ≤ w'.heap.size) => (HV.out w' hb).mono (R' := fun e w2 => ∃ a3 cap3, e = .returned (.slice a3 x.v.length cap3) ∧ RowOf L (w.heap.size + 2) w2 3 (RVal L (w.heap.size + 2) w2 (RMsg L (w.heap.size + 2) w2 n)) (.slice a3 x.v.length cap3) x.v ∧ Below w'.heap.size w' w2) (by
    rintro e w2 ⟨v', rfl, hv, b'⟩
    have hr := hv.gen (L' := L) (B' := w.heap.size + 2) (R' := RVal L (w.heap.size + 2) w2 (RMsg L (w.heap.size + 2) w2 n)) hlen2 hz (Keeps.refl _ _) fun _ _ _ h => h.keep hz (Nat.le_refl _) (Keeps.refl _ _)
    have HR := Lib.hid hr
    obtain ⟨a3, cap3, rfl, -⟩ := hr
    exact ⟨_, _, rfl, HR.out, b'⟩))
  clear HK HV
  go_enter Try.func40, Try.ntmps40
  go_upto_region 1 with fail
  have BX := Lib.hid (Bx.new w (.int .i64 x.no) (.slice a1 x.k.length cap1) (.slice a2 x.v.length cap2) (.int .i64 0) (.slice none 0 0) (.slice none 0 0) 27 27)
  go_region_with (first
      | (go_at_call 53; (with_reducible refine (H1.out _ ?_ ?_).mono ?_); exact (al2 _ _ _).drew; (simp); rintro e w1 ⟨a3, cap3, rfl, r1, b1⟩;
          (have R1 := Lib.hid r1); clear r1;
          (have B1 := Lib.hid ((al2 w (.cells #[.int .i64 x.no, .slice a1 x.k.length cap1, .slice a2 x.v.length cap2] 27) (.cells #[.int .i64 0, .slice none 0 0, .slice none 0 0] 27)).drew.nx b1));
          (have BX1 := Lib.hid (BX.out.below b1)); (obtain ⟨s1, m0, m1, m2, f0, q0, q1, q2, f1⟩ := BX1.out); clear b1 BX)
      | (go_at_call 53; (with_reducible refine (H2.out w1 ?_ ?_).mono ?_); exact B1.out; exact s1; rintro e w2 ⟨a4, cap4, rfl, r2, b2⟩;
          (have R2 := Lib.hid r2); clear r2;
          (have R1' := Lib.hid (R1.out.gen hlen (Nat.le_refl _) (.of_below b2) fun _ _ _ h => h.below b2)); clear R1; (have R1 := R1'); clear R1';
          (have B2 := Lib.hid (B1.out.nx b2));
          (have BX2 := Lib.hid (BX1.out.below b2)); clear s1 m0 m1 m2 f0 q0 q1 q2 f1 BX1; (obtain ⟨s1, m0, m1, m2, f0, q0, q1, q2, f1⟩ := BX2.out); (obtain ⟨x0, z0⟩ := Option.isSome_iff_exists.1 q0); (obtain ⟨x1, z1⟩ := Option.isSome_iff_exists.1 q1); (obtain ⟨x2, z2⟩ := Option.isSome_iff_exists.1 q2); clear b2 q0 q1 q2)
      | fail)
  all_goals (
    have B3 := ((B2.out.setCell (p := ⟨w.heap.size + 1, 0, none⟩) (by simp) (.int .i64 x.no)).setCell (p := ⟨w.heap.size + 1, 1, none⟩) (by simp) (.slice a3 x.k.length cap3)).setCell (p := ⟨w.heap.size + 1, 2, none⟩) (by simp) (.slice a4 x.v.length cap4)
    have kp : Keeps (w.heap.size + 2) w2 (((w2.setCell ⟨w.heap.size + 1, 0, none⟩ (Value.int IntKind.i64 x.no)).setCell ⟨w.heap.size + 1, 1, none⟩ (Value.slice a3 x.k.length cap3)).setCell ⟨w.heap.size + 1, 2, none⟩ (Value.slice a4 x.v.length cap4)) :=
      (((Keeps.refl _ _).set (by simp) _).set (by simp) _).set (by simp) _
    have HKP := Lib.hid kp
    have HB3 := Lib.hid B3
    clear kp B3
    go_wp2_with fail
    exact bodyPost_ret (v := .agg #[.int .i64 x.no, .slice a3 x.k.length cap3, .slice a4 x.v.length cap4]) (results_cell_mid rfl _ _ (w.heap.size + 1) 0 [_, _, _] _ rfl (rangeAt_set3 _ _ 0 _ _ _ BX2.out.there) Try.underlying27 rfl (by kernel_rfl)) rfl
      ⟨[_, _, _], rfl, ⟨_, _, rfl, h1, h2, R1.out.gen hlen (by omega) HKP.out fun _ _ _ h => h.keep (by omega) (Nat.le_refl _) HKP.out, R2.out.gen hlen2 (by omega) HKP.out fun _ _ _ h => h.keep (by omega) (Nat.le_refl _) HKP.out⟩,
      HB3.out⟩)
/-- The reference's Own. -/
theorem ref_own (L : Nat) (hL : L ≤ 1048576) : ∀ (n : Nat) (w : World) (cs : List Value) (m : Msg), RMsg L 0 w n cs m →
    Calls Try.prog 16 #[.agg cs.toArray] w fun e w' => ∃ ds, e = .returned (.agg ds.toArray) ∧ RMsg L w.heap.size w' n ds m ∧ Below w.heap.size w w'
  | 0, _, _, _, h => h.elim
  | n + 1, w, cs, m, h => own_step9 L n hL (slot_step9 L n hL (ref_own L hL n)) w cs m h
/-- The reference's Slot. -/
theorem ref_slot (L n : Nat) (hL : L ≤ 1048576) (w : World) (cs : List Value) (x : Slot) (hx : RSlot L 0 w (RMsg L 0 w n) cs x) :
    Calls Try.prog 40 #[.agg cs.toArray] w fun e w' => ∃ ds, e = .returned (.agg ds.toArray) ∧ RSlot L w.heap.size w' (RMsg L w.heap.size w' n) ds x ∧ Below w.heap.size w w' :=
  slot_step9 L n hL (ref_own L hL n) w cs x hx
/-- The reference's Each. -/
theorem ref_each (L n : Nat) (hL : L ≤ 1048576) (w : World) (v : Value) (l : List Val) (hx : RowOf L 0 w 3 (RVal L 0 w (RMsg L 0 w n)) v l) :
    Calls Try.prog 53 #[v] w fun e w' => ∃ v', e = .returned v' ∧ RowOf L w.heap.size w' 3 (RVal L w.heap.size w' (RMsg L w.heap.size w' n)) v' l ∧ Below w.heap.size w w' :=
  each_step9 L n hL (ref_own L hL n) w v l hx
end
end Go.Proofs.Ytogcnodgpgiacaa
