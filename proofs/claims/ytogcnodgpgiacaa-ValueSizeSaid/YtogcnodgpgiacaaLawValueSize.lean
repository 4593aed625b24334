/- The statement ValueSize: for every message and slot that are not too great, a slot that is set adds its values, and takes the place of the one of its number; no condition. -/
import Derived.Test.YtogcnodgpgiacaaRows
import Derived.WalkKit
import Derived.ProofKit
import Derived.OpenShut
import Derived.ShutString
import Derived.ChangeOld
import Derived.Below
import Derived.SizedLaws
import Derived.ChangeSlices
import Derived.Test.YtogcnodgpgiacaaFew9
import Derived.Test.YtogcnodgpgiacaaPlain9
namespace Go.Proofs.Ytogcnodgpgiacaa.valueSize
open Go.ChangeShapes Go.WideShapes Go.ChangeAt Go.RowKit Go.Tr Go.Proofs.Ytogcnodgpgiacaa
open Go.ChangeMaps (open_string shut_string)
set_option linter.unusedVariables false
set_option linter.unusedSimpArgs false

theorem own : ownKnob Try.prog.godebug = none := by kernel_rfl
theorem laidOut : laidOutB Try.prog = true := by kernel_rfl

/-! THE WALK -/
set_option maxHeartbeats 8000000 in
set_option maxRecDepth 100000 in
theorem walk (n : Nat) (w : World) (cs0 : List Value) (x0 : Msg) (h0 : RMsg Great 0 w n cs0 x0) (cs1 : List Value) (x1 : Slot) (h1 : RSlot Great 0 w (RMsg Great 0 w n) cs1 x1) :
    Calls Try.prog 7 #[.agg cs0.toArray, .agg cs1.toArray] w fun e w' => e = .returned (.bool true) ∧ Below w.heap.size w w' := by
  have HA := Lib.hid fun w' => Go.Proofs.Ytogcnodgpgiacaa.awake w'
  have H0 := Lib.hid (RMsg.keep (Nat.le_refl 0) (Keeps.refl 0 w) n (n + 1) (by omega) h0)
  have H1 := Lib.hid h1
  obtain ⟨v0, rfl, o0⟩ := rmsg_one Great 0 n w _ _ h0
  obtain ⟨a0, cap0, rfl⟩ : ∃ a cap, v0 = .slice a x0.f.length cap := by
    obtain ⟨c, e, r⟩ := H0.out
    cases e
    obtain ⟨a, cap, rfl, -⟩ := r
    exact ⟨a, cap, rfl⟩
  obtain ⟨c, d, rfl, hn1, hn2, r1, r2⟩ := h1
  obtain ⟨a1, cap1, rfl, -⟩ := r1
  obtain ⟨a2, cap2, rfl, -⟩ := r2
  clear h0 o0
  go_enter Try.func7, Try.ntmps7
  go_wp2_with fail
  refine (HA.out _).mono ?_; rintro e w1 ⟨rfl, b1⟩
  have Q0 : Hid (Box1 w.heap.size w1 (.slice a0 x0.f.length cap0)) := ((Box1.new w _ 24).below (al1 _ _)).below b1
  have Q1 : Hid (Box3 (w.heap.size + 1) w1 (.int .i64 x1.no) (.slice a1 x1.k.length cap1) (.slice a2 x1.v.length cap2)) := by
    have h := (Box3.new (w.alloc (.cells #[.slice a0 x0.f.length cap0] 24)) (.int .i64 x1.no) (.slice a1 x1.k.length cap1) (.slice a2 x1.v.length cap2) 27).below b1
    rw [show (w.alloc (.cells #[.slice a0 x0.f.length cap0] 24)).heap.size = w.heap.size + 1 by simp] at h
    exact h
  have B1 := Lib.hid (((al1 _ _).nx (al1 _ _)).nx b1)
  clear b1
  obtain ⟨l0, s0⟩ := Q0.out
  obtain ⟨l1, t0, t1, t2⟩ := Q1.out
  go_wp2_with fail
  refine (law_few Great (n + 1) (by decide) _ _ _ (few_args B1.out H0.out H1.out (by decide))).mono ?_; rintro e w2 ⟨⟨b, rfl, hb⟩, b2⟩
  have Q0' : Hid (Box1 w.heap.size w2 _) := ((Q0.out.below (al1 _ _)).below (al1 _ _)).below b2
  have Q1' : Hid (Box3 (w.heap.size + 1) w2 _ _ _) := ((Q1.out.below (al1 _ _)).below (al1 _ _)).below b2
  have B2 := Lib.hid (B1.out.nx (((al1 _ _).nx (al1 _ _)).nx b2))
  clear b2 l0 s0 l1 t0 t1 t2 Q0 Q1 B1
  obtain ⟨l0, s0⟩ := Q0'.out
  obtain ⟨l1, t0, t1, t2⟩ := Q1'.out
  cases b with
  | false =>
    go_wp2_with fail
    exact ⟨rfl, _, results_tmp (t := 4) rfl _ _ _, rfl, B2.out⟩
  | true =>
    have hl0 := hb rfl x0 (by simp)
    have hl1 := hb rfl (.mk [x1]) (by simp)
    clear hb
    by_cases hsv : x1.v = []
    · have hlz : x1.v.length = 0 := by rw [hsv]; rfl
      have hle : ((x1.v.length : Int) == 0) = true := by simp [hsv]
      clear hsv
      go_wp2_with fail
      exact ⟨rfl, _, results_tmp (t := 4) rfl _ _ _, rfl, B2.out⟩
    · have hl00 : 0 < x1.v.length := List.length_pos_iff.2 hsv
      have hle : ((x1.v.length : Int) == 0) = false := by simp; exact hsv
      have hle2 : ¬ ((x1.v.length : Int) = 0) := by omega
      have HSZ := Lib.hid (size_set x0 x1 hsv)
      have HDP := Lib.hid (deep_set x0 x1 hsv)
      have HSW := Lib.hid (size_without x0 x1.no)
      have HDW := Lib.hid (deep_without x0 x1.no)
      clear hsv
      have hm0 := size_le_weight hl0
      have hm1 := size_le_weight hl1
      have M0 := Lib.hid (H0.out.shrink (L' := 10000) (n + 1) (by have := hl0.1; omega))
      have M1 := Lib.hid (RSlot.shrink (L' := 10000) H1.out (by have := hl1.1; omega))
      clear hl0 hl1 H0 H1
      go_wp2_with fail
      refine (value_set 10000 n (by omega) w2 [_] [_, _, _] x0 x1 (RMsg.below B2.out (n + 1) M0.out) (M1.out.below B2.out) (by omega)).mono ?_; rintro e w3 ⟨v3, rfl, r3, b3⟩
      obtain ⟨a3, cap3, rfl⟩ := rmsg_slice r3
      have M3 := Lib.hid (RMsg.keep (Nat.zero_le _) (Keeps.refl _ _) _ _ (Nat.le_refl _) r3)
      generalize setSlot x0 x1 = m3 at M3 HSZ HDP r3 ⊢
      clear r3
      obtain ⟨l3, hl3⟩ : ∃ l, l = m3.f.length := ⟨_, rfl⟩
      rw [← hl3] at M3 ⊢
      clear hl3
      have R0 : Hid (Box1 w.heap.size w3 _) := Q0'.out.below b3
      have R1 : Hid (Box3 (w.heap.size + 1) w3 _ _ _) := Q1'.out.below b3
      have B3 := Lib.hid (B2.out.nx b3)
      clear b3 l0 s0 l1 t0 t1 t2 Q0' Q1'
      obtain ⟨l0, s0⟩ := R0.out
      obtain ⟨l1, t0, t1, t2⟩ := R1.out
      go_wp2_with fail
      refine (value_set 10000 n (by omega) _ [_] [_, _, _] x0 ⟨x1.no, [], []⟩ (RMsg.below (B3.out.nx (al1 _ _)) (n + 1) M0.out) (rslot_no _ _ _ _ _ hn1 hn2) (by omega)).mono ?_; rintro e w4 ⟨v4, rfl, r4, b4⟩
      rw [set_without] at r4
      obtain ⟨a4, cap4, rfl⟩ := rmsg_slice r4
      have M4 := Lib.hid (RMsg.keep (Nat.zero_le _) (Keeps.refl _ _) _ _ (Nat.le_refl _) r4)
      generalize Msg.mk (without x0 x1.no) = m4 at M4 HSZ HDP HSW HDW r4 ⊢
      clear r4
      obtain ⟨l4, hl4⟩ : ∃ l, l = m4.f.length := ⟨_, rfl⟩
      rw [← hl4] at M4 ⊢
      clear hl4
      have S0 : Hid (Box1 w.heap.size w4 _) := (R0.out.below (al1 _ _)).below b4
      have S1 : Hid (Box3 (w.heap.size + 1) w4 _ _ _) := (R1.out.below (al1 _ _)).below b4
      have S7 : Hid (Box1 w3.heap.size w4 _) := (Box1.new w3 _ _).below b4
      have B34 := Lib.hid ((al1 _ _).nx b4)
      clear b4 l0 s0 l1 t0 t1 t2 R0 R1
      obtain ⟨l0, s0⟩ := S0.out
      obtain ⟨l1, t0, t1, t2⟩ := S1.out
      obtain ⟨l7, u0⟩ := S7.out
      go_wp2_with fail
      refine (value_deep 10000 (by omega) (n + 1) _ [_] m4 (RMsg.below (((al1 _ _).nx (al1 _ _)).nx (al1 _ _)) (n + 1) M4.out) (by have := HDW.out; have := hm0.2.2; omega)).mono ?_; rintro e w5 ⟨rfl, b5⟩
      have T0 : Hid (Box1 w.heap.size w5 _) := (((S0.out.below (al1 _ _)).below (al1 _ _)).below (al1 _ _)).below b5
      have T7 : Hid (Box1 w3.heap.size w5 _) := (((S7.out.below (al1 _ _)).below (al1 _ _)).below (al1 _ _)).below b5
      have T8 : Hid (Box1 w4.heap.size w5 _) := (((Box1.new w4 _ _).below (al1 _ _)).below (al1 _ _)).below b5
      have hzz : ((w4.alloc (.cells #[.slice a4 l4 cap4] 24)).alloc (.cells #[.int .i64 x1.no, .slice a1 x1.k.length cap1, .slice a2 x1.v.length cap2] 27)).heap.size = w4.heap.size + 2 := by simp
      have hzy : (w4.alloc (.cells #[.slice a4 l4 cap4] 24)).heap.size = w4.heap.size + 1 := by simp
      have T9 : Hid (Box1 (w4.heap.size + 2) w5 (.slice (some ⟨w4.heap.size + 1, 0, none⟩) 1 1)) := by
        have h := (Box1.new ((w4.alloc (.cells #[.slice a4 l4 cap4] 24)).alloc (.cells #[.int .i64 x1.no, .slice a1 x1.k.length cap1, .slice a2 x1.v.length cap2] 27)) (.slice (some ⟨w4.heap.size + 1, 0, none⟩) 1 1) 24).below b5
        rw [hzz] at h; exact h
      have hblk : w5.heap[w4.heap.size + 1]? = some (.cells #[.int .i64 x1.no, .slice a1 x1.k.length cap1, .slice a2 x1.v.length cap2] 27 (0, 0)) := by
        have h1 := heap_alloc_new (w4.alloc (.cells #[.slice a4 l4 cap4] 24)) (.cells #[.int .i64 x1.no, .slice a1 x1.k.length cap1, .slice a2 x1.v.length cap2] 27)
        rw [hzy] at h1
        have h2 := ((al1 ((w4.alloc (.cells #[.slice a4 l4 cap4] 24)).alloc (.cells #[.int .i64 x1.no, .slice a1 x1.k.length cap1, .slice a2 x1.v.length cap2] 27)) (.cells #[.slice (some ⟨w4.heap.size + 1, 0, none⟩) 1 1] 24)).nx b5).block (w4.heap.size + 1) (by rw [hzz]; omega)
        exact h2.trans h1
      have B45 := Lib.hid ((((al1 _ _).nx (al1 _ _)).nx (al1 _ _)).nx b5 : Below w4.heap.size w4 w5)
      have M1x := Lib.hid (msg_one (L := 10000) (by omega) (Nat.zero_le _) hblk (M1.out.below (B3.out.nx (B34.out.nx B45.out))))
      have HZ1E' : (Msg.mk [x1]).size ≤ 3000 := hm1.1
      have HD1E' : ((Msg.mk [x1]).deep : Int) ≤ 80 := hm1.2.2
      generalize Msg.mk [x1] = m1 at M1x HSZ HDP HZ1E' HD1E' hm1
      clear b5 hblk hzz hzy l0 s0 l1 t0 t1 t2 l7 u0 S0 S7 M1
      obtain ⟨d4, hd4⟩ : ∃ d, d = m4.deep := ⟨_, rfl⟩
      obtain ⟨d1, hd1⟩ : ∃ d, d = m1.deep := ⟨_, rfl⟩
      obtain ⟨z0, hz0⟩ : ∃ d, d = x0.size := ⟨_, rfl⟩
      obtain ⟨z1, hz1⟩ : ∃ d, d = m1.size := ⟨_, rfl⟩
      obtain ⟨z4, hz4⟩ : ∃ d, d = m4.size := ⟨_, rfl⟩
      have hbd : d4 ≤ 80 ∧ d1 ≤ 80 ∧ z0 ≤ 3000 ∧ z1 ≤ 3000 ∧ z4 ≤ z0 := by have := HSW.out; have := HDW.out; have := hm0.1; have := hm0.2.2; omega
      have HZ0E := Lib.hid hz0.symm
      have HZ1E := Lib.hid hz1.symm
      have HZ4E := Lib.hid hz4.symm
      have HZ3E : Hid (m3.size = z4 + z1) := by rw [hz4, hz1]; exact HSZ.out
      have HP3E : Hid (m3.deep = max d4 d1) := by rw [hd4, hd1]; exact HDP.out
      have HD1E := Lib.hid hd1.symm
      rw [← hd4]
      clear hd4 hd1 hz0 hz1 hz4 HSZ HDP HSW HDW hm0 hm1 HZ1E' HD1E'
      obtain ⟨l8, u8⟩ := T8.out
      obtain ⟨l9, u9⟩ := T9.out
      go_wp2_with fail
      refine (value_deep 10000 (by omega) (n + 1) _ [_] m1 M1x.out (by rw [HD1E.out]; omega)).mono ?_; rintro e w6 ⟨rfl, b6⟩
      rw [HD1E.out]
      have U0 : Hid (Box1 w.heap.size w6 _) := T0.out.below b6
      have U7 : Hid (Box1 w3.heap.size w6 _) := T7.out.below b6
      have U8 : Hid (Box1 w4.heap.size w6 _) := T8.out.below b6
      have U9 : Hid (Box1 (w4.heap.size + 2) w6 _) := T9.out.below b6
      have B56 := Lib.hid b6
      clear b6 l8 u8 l9 u9 T0 T7 T8 T9
      obtain ⟨l9, u9⟩ := U9.out
      have M0x := M0
      by_cases hgt : d4 < d1
      · have hg : decide ((d1 : Int) > (d4 : Int)) = true := by simp; omega
        go_wp2_with fail
        refine (value_deep 10000 (by omega) (n + 1) _ [_] m1 (RMsg.below B56.out (n + 1) M1x.out) (by rw [HD1E.out]; omega)).mono ?_; rintro e w7 ⟨rfl, b7⟩
        rw [HD1E.out]
        have Q0 : Hid (Box1 w.heap.size w7 _) := U0.out.below b7
        have Q7 : Hid (Box1 w3.heap.size w7 _) := U7.out.below b7
        have Q8 : Hid (Box1 w4.heap.size w7 _) := U8.out.below b7
        have Q9 : Hid (Box1 (w4.heap.size + 2) w7 _) := U9.out.below b7
        have B5X := Lib.hid (B56.out.nx b7)
        have B4X := Lib.hid (B45.out.nx B5X.out)
        have B3X := Lib.hid (B34.out.nx B4X.out)
        have B0X := Lib.hid (B3.out.nx B3X.out)
        clear b7 l9 u9 U0 U7 U8 U9
        go_wp2_with fail
        have HZ3 := Lib.hid fun w' (hb : Below w7.heap.size w7 w') => (value_size 10000 (by omega) (n + 1) w' _ _ (RMsg.below (B3X.out.nx hb) (n + 1) M3.out) (by have := HZ3E.out; have := HZ4E.out; have := HZ1E.out; have := HZ0E.out; omega)).mono (R' := fun e w'' => e = .returned (.int .i64 ((z4 : Int) + z1)) ∧ Below w'.heap.size w' w'') (by rintro e w'' ⟨rfl, b⟩; exact ⟨by rw [HZ3E.out]; rfl, b⟩)
        have HZ4 := Lib.hid fun w' (hb : Below w7.heap.size w7 w') => (value_size 10000 (by omega) (n + 1) w' _ _ (RMsg.below (B4X.out.nx hb) (n + 1) M4.out) (by have := HZ3E.out; have := HZ4E.out; have := HZ1E.out; have := HZ0E.out; omega)).mono (R' := fun e w'' => e = .returned (.int .i64 ((z4 : Int))) ∧ Below w'.heap.size w' w'') (by rintro e w'' ⟨rfl, b⟩; exact ⟨by rw [HZ4E.out], b⟩)
        have HZ1 := Lib.hid fun w' (hb : Below w7.heap.size w7 w') => (value_size 10000 (by omega) (n + 1) w' _ _ (RMsg.below (B5X.out.nx hb) (n + 1) M1x.out) (by have := HZ3E.out; have := HZ4E.out; have := HZ1E.out; have := HZ0E.out; omega)).mono (R' := fun e w'' => e = .returned (.int .i64 ((z1 : Int))) ∧ Below w'.heap.size w' w'') (by rintro e w'' ⟨rfl, b⟩; exact ⟨by rw [HZ1E.out], b⟩)
        have HZ0 := Lib.hid fun w' (hb : Below w7.heap.size w7 w') => (value_size 10000 (by omega) (n + 1) w' _ _ (RMsg.below (B0X.out.nx hb) (n + 1) M0x.out) (by have := HZ3E.out; have := HZ4E.out; have := HZ1E.out; have := HZ0E.out; omega)).mono (R' := fun e w'' => e = .returned (.int .i64 ((z0 : Int))) ∧ Below w'.heap.size w' w'') (by rintro e w'' ⟨rfl, b⟩; exact ⟨by rw [HZ0E.out], b⟩)
        have HP3 := Lib.hid fun w' (hb : Below w7.heap.size w7 w') => (value_deep 10000 (by omega) (n + 1) w' _ _ (RMsg.below (B3X.out.nx hb) (n + 1) M3.out) (by have := HP3E.out; omega)).mono (R' := fun e w'' => e = .returned (.int .i64 (d1 : Int)) ∧ Below w'.heap.size w' w'') (by rintro e w'' ⟨rfl, b⟩; exact ⟨by rw [HP3E.out]; congr 2; omega, b⟩)
        obtain ⟨l0, s0⟩ := Q0.out
        obtain ⟨l7, u0⟩ := Q7.out
        obtain ⟨l8, u8⟩ := Q8.out
        obtain ⟨l9, u9⟩ := Q9.out
        have hwr : IntKind.i64.wrap ((z4 : Int) + (z1 : Int)) = (z4 : Int) + (z1 : Int) := IntWalk.i64_in _ (by omega)
        have hle9 : decide ((z4 : Int) ≤ (z0 : Int)) = true := by simp; omega
        go_region_held3 (fun w' => w'.cell? ⟨w.heap.size, 0, none⟩ = some (.slice a0 x0.f.length cap0) ∧ w'.cell? ⟨w3.heap.size, 0, none⟩ = some (.slice a3 l3 cap3) ∧ w'.cell? ⟨w4.heap.size, 0, none⟩ = some (.slice a4 l4 cap4) ∧ w'.cell? ⟨w4.heap.size + 2, 0, none⟩ = some (.slice (some ⟨w4.heap.size + 1, 0, none⟩) 1 1))
          (first | go_keep | exact hk)
          (first
          | (go_at_call 19; (with_reducible refine (HZ3.out _ ?_).mono ?_); (exact (Below.refl _ _).drew); rintro e y1 ⟨rfl, g1⟩; (have D1 := Lib.hid ((Below.refl w7.heap.size w7).drew.trans g1)); (have hk := And.intro (Q0.out.below D1.out).2 (And.intro (Q7.out.below D1.out).2 (And.intro (Q8.out.below D1.out).2 (Q9.out.below D1.out).2))); clear g1)
          | (go_at_call 19; (with_reducible refine (HZ4.out _ ?_).mono ?_); (exact D1.out); rintro e y2 ⟨rfl, g2⟩; clear hk; (have D2 := Lib.hid (D1.out.nx g2)); (have hk := And.intro (Q0.out.below D2.out).2 (And.intro (Q7.out.below D2.out).2 (And.intro (Q8.out.below D2.out).2 (Q9.out.below D2.out).2))); clear g2)
          | (go_at_call 19; (with_reducible refine (HZ1.out _ ?_).mono ?_); (exact D2.out); rintro e y3 ⟨rfl, g3⟩; clear hk; (have D3 := Lib.hid (D2.out.nx g3)); (have hk := And.intro (Q0.out.below D3.out).2 (And.intro (Q7.out.below D3.out).2 (And.intro (Q8.out.below D3.out).2 (Q9.out.below D3.out).2))); clear g3)
          | (go_at_call 20; (with_reducible refine (HP3.out _ ?_).mono ?_); (exact D3.out); rintro e y4 ⟨rfl, g4⟩; clear hk; (have D4 := Lib.hid (D3.out.nx g4)); (have hk := And.intro (Q0.out.below D4.out).2 (And.intro (Q7.out.below D4.out).2 (And.intro (Q8.out.below D4.out).2 (Q9.out.below D4.out).2))); clear g4)
          | (go_at_call 19; (with_reducible refine (HZ4.out _ ?_).mono ?_); (exact D4.out); rintro e y5 ⟨rfl, g5⟩; clear hk; (have D5 := Lib.hid (D4.out.nx g5)); (have hk := And.intro (Q0.out.below D5.out).2 (And.intro (Q7.out.below D5.out).2 (And.intro (Q8.out.below D5.out).2 (Q9.out.below D5.out).2))); clear g5)
          | (go_at_call 19; (with_reducible refine (HZ0.out _ ?_).mono ?_); (exact D5.out); rintro e y6 ⟨rfl, g6⟩; clear hk; (have D6 := Lib.hid (D5.out.nx g6)); (have hk := And.intro (Q0.out.below D6.out).2 (And.intro (Q7.out.below D6.out).2 (And.intro (Q8.out.below D6.out).2 (Q9.out.below D6.out).2))); clear g6))
        all_goals (
          go_wp2
          exact ⟨rfl, _, results_tmp (t := 4) rfl _ _ _, rfl, B0X.out.nx D6.out⟩)
      · have hg : decide ((d1 : Int) > (d4 : Int)) = false := by simp; omega
        have Q0 := U0
        have Q7 := U7
        have Q8 := U8
        have Q9 := U9
        have B5X := B56
        have B4X := Lib.hid (B45.out.nx B5X.out)
        have B3X := Lib.hid (B34.out.nx B4X.out)
        have B0X := Lib.hid (B3.out.nx B3X.out)
        go_wp2_with fail
        clear l9 u9 U0 U7 U8 U9
        have HZ3 := Lib.hid fun w' (hb : Below w6.heap.size w6 w') => (value_size 10000 (by omega) (n + 1) w' _ _ (RMsg.below (B3X.out.nx hb) (n + 1) M3.out) (by have := HZ3E.out; have := HZ4E.out; have := HZ1E.out; have := HZ0E.out; omega)).mono (R' := fun e w'' => e = .returned (.int .i64 ((z4 : Int) + z1)) ∧ Below w'.heap.size w' w'') (by rintro e w'' ⟨rfl, b⟩; exact ⟨by rw [HZ3E.out]; rfl, b⟩)
        have HZ4 := Lib.hid fun w' (hb : Below w6.heap.size w6 w') => (value_size 10000 (by omega) (n + 1) w' _ _ (RMsg.below (B4X.out.nx hb) (n + 1) M4.out) (by have := HZ3E.out; have := HZ4E.out; have := HZ1E.out; have := HZ0E.out; omega)).mono (R' := fun e w'' => e = .returned (.int .i64 ((z4 : Int))) ∧ Below w'.heap.size w' w'') (by rintro e w'' ⟨rfl, b⟩; exact ⟨by rw [HZ4E.out], b⟩)
        have HZ1 := Lib.hid fun w' (hb : Below w6.heap.size w6 w') => (value_size 10000 (by omega) (n + 1) w' _ _ (RMsg.below (B5X.out.nx hb) (n + 1) M1x.out) (by have := HZ3E.out; have := HZ4E.out; have := HZ1E.out; have := HZ0E.out; omega)).mono (R' := fun e w'' => e = .returned (.int .i64 ((z1 : Int))) ∧ Below w'.heap.size w' w'') (by rintro e w'' ⟨rfl, b⟩; exact ⟨by rw [HZ1E.out], b⟩)
        have HZ0 := Lib.hid fun w' (hb : Below w6.heap.size w6 w') => (value_size 10000 (by omega) (n + 1) w' _ _ (RMsg.below (B0X.out.nx hb) (n + 1) M0x.out) (by have := HZ3E.out; have := HZ4E.out; have := HZ1E.out; have := HZ0E.out; omega)).mono (R' := fun e w'' => e = .returned (.int .i64 ((z0 : Int))) ∧ Below w'.heap.size w' w'') (by rintro e w'' ⟨rfl, b⟩; exact ⟨by rw [HZ0E.out], b⟩)
        have HP3 := Lib.hid fun w' (hb : Below w6.heap.size w6 w') => (value_deep 10000 (by omega) (n + 1) w' _ _ (RMsg.below (B3X.out.nx hb) (n + 1) M3.out) (by have := HP3E.out; omega)).mono (R' := fun e w'' => e = .returned (.int .i64 (d4 : Int)) ∧ Below w'.heap.size w' w'') (by rintro e w'' ⟨rfl, b⟩; exact ⟨by rw [HP3E.out]; congr 2; omega, b⟩)
        obtain ⟨l0, s0⟩ := Q0.out
        obtain ⟨l7, u0⟩ := Q7.out
        obtain ⟨l8, u8⟩ := Q8.out
        obtain ⟨l9, u9⟩ := Q9.out
        have hwr : IntKind.i64.wrap ((z4 : Int) + (z1 : Int)) = (z4 : Int) + (z1 : Int) := IntWalk.i64_in _ (by omega)
        have hle9 : decide ((z4 : Int) ≤ (z0 : Int)) = true := by simp; omega
        go_region_held3 (fun w' => w'.cell? ⟨w.heap.size, 0, none⟩ = some (.slice a0 x0.f.length cap0) ∧ w'.cell? ⟨w3.heap.size, 0, none⟩ = some (.slice a3 l3 cap3) ∧ w'.cell? ⟨w4.heap.size, 0, none⟩ = some (.slice a4 l4 cap4) ∧ w'.cell? ⟨w4.heap.size + 2, 0, none⟩ = some (.slice (some ⟨w4.heap.size + 1, 0, none⟩) 1 1))
          (first | go_keep | exact hk)
          (first
          | (go_at_call 19; (with_reducible refine (HZ3.out _ ?_).mono ?_); (exact (Below.refl _ _).drew); rintro e y1 ⟨rfl, g1⟩; (have D1 := Lib.hid ((Below.refl w6.heap.size w6).drew.trans g1)); (have hk := And.intro (Q0.out.below D1.out).2 (And.intro (Q7.out.below D1.out).2 (And.intro (Q8.out.below D1.out).2 (Q9.out.below D1.out).2))); clear g1)
          | (go_at_call 19; (with_reducible refine (HZ4.out _ ?_).mono ?_); (exact D1.out); rintro e y2 ⟨rfl, g2⟩; clear hk; (have D2 := Lib.hid (D1.out.nx g2)); (have hk := And.intro (Q0.out.below D2.out).2 (And.intro (Q7.out.below D2.out).2 (And.intro (Q8.out.below D2.out).2 (Q9.out.below D2.out).2))); clear g2)
          | (go_at_call 19; (with_reducible refine (HZ1.out _ ?_).mono ?_); (exact D2.out); rintro e y3 ⟨rfl, g3⟩; clear hk; (have D3 := Lib.hid (D2.out.nx g3)); (have hk := And.intro (Q0.out.below D3.out).2 (And.intro (Q7.out.below D3.out).2 (And.intro (Q8.out.below D3.out).2 (Q9.out.below D3.out).2))); clear g3)
          | (go_at_call 20; (with_reducible refine (HP3.out _ ?_).mono ?_); (exact D3.out); rintro e y4 ⟨rfl, g4⟩; clear hk; (have D4 := Lib.hid (D3.out.nx g4)); (have hk := And.intro (Q0.out.below D4.out).2 (And.intro (Q7.out.below D4.out).2 (And.intro (Q8.out.below D4.out).2 (Q9.out.below D4.out).2))); clear g4)
          | (go_at_call 19; (with_reducible refine (HZ4.out _ ?_).mono ?_); (exact D4.out); rintro e y5 ⟨rfl, g5⟩; clear hk; (have D5 := Lib.hid (D4.out.nx g5)); (have hk := And.intro (Q0.out.below D5.out).2 (And.intro (Q7.out.below D5.out).2 (And.intro (Q8.out.below D5.out).2 (Q9.out.below D5.out).2))); clear g5)
          | (go_at_call 19; (with_reducible refine (HZ0.out _ ?_).mono ?_); (exact D5.out); rintro e y6 ⟨rfl, g6⟩; clear hk; (have D6 := Lib.hid (D5.out.nx g6)); (have hk := And.intro (Q0.out.below D6.out).2 (And.intro (Q7.out.below D6.out).2 (And.intro (Q8.out.below D6.out).2 (Q9.out.below D6.out).2))); clear g6))
        all_goals (
          go_wp2
          exact ⟨rfl, _, results_tmp (t := 4) rfl _ _ _, rfl, B0X.out.nx D6.out⟩)

/-! THE ROW -/
set_option maxRecDepth 100000 in
theorem lifted (os : Os) (started : os.Started) (H : Type) (enc : TypeId × Value → H) :
    ReturnsInHanded {} Try.checked os 7 .any (Rows.valueSizeSpec.pre6 enc Try.prog Try.f7 Rows.valueSizeRow.domain false) (Rows.valueSizeSpec.post enc Try.prog Try.f7 false true false false) := by
  refine returnsInHanded_of_change_sized (C := Try.checked) own started (by kernel_rfl) Try.func7
    (ChangeSpec.witness6 (enc := enc) (C := Try.checked) false ⟨#[], #[.agg #[.slice none 0 0], .agg #[.int .i64 0, .slice none 0 0, .slice none 0 0]], []⟩ 8 (by kernel_rfl) (by kernel_rfl) (by kernel_rfl) (by kernel_rfl)) ?_
  intro W base args ds gs before hval0 hW hcnd hsz0 _
  have hsz : (DataW.weightsEach Try.prog (Try.f7.params.toList ++ Rows.valueSizeSpec.plain.varTypes Try.prog) (ds ++ gs)).all (· ≤ reachBytes) = true := hsz0
  have hval : ∀ (j : Nat) t v, Try.f7.params[j]? = some t → args[j]? = some v → Value.okWide Try.prog W .any base t v := hval0
  have hW' := hW
  obtain ⟨p, q, hA0, hV, rfl, hfz, hnd⟩ := hW
  have hA : DataW.TrodAll enc Try.prog W 0 (fun _ => true) true Try.f7.params.toList args.toList ds p := hA0
  rw [Try.params7] at hA hval hsz
  obtain ⟨v0, vs0, d0, ds0, p0, q0, hargs, rfl, rfl, h0, r0⟩ := trodAll_cons hA
  obtain ⟨v1, vs1, d1, ds1, p1, q1, rfl, rfl, rfl, h1, r1⟩ := trodAll_cons r0
  obtain ⟨rfl, rfl, rfl⟩ := trodAll_nil r1
  obtain rfl : args = #[v0, v1] := by cases args; simp_all
  obtain ⟨rfl, rfl⟩ := trodVars_none hV
  have k0 := h0
  have lt0 : ∀ x ∈ p0, x.block < W.heap.size := by obtain ⟨m, hm⟩ := k0; exact DataW.trod_lt m _ _ _ hm
  have hw0 : ∀ z ∈ d0.weights Try.prog 24, z ≤ reachBytes := fun z hz => by simpa using List.all_eq_true.1 hsz z (DataW.weights_mem_each (j := 0) rfl rfl z hz)
  obtain ⟨c0, rfl, -⟩ := okWide_struct Try.underlying24 (hval 0 24 v0 rfl rfl)
  obtain ⟨fuel0, hf0⟩ := h0
  obtain ⟨x0, g0⟩ : ∃ x, RMsg Great 0 W fuel0 c0.toList x := open_msg fuel0 _ _ hf0 hw0
  have k1 := h1
  have lt1 : ∀ x ∈ p1, x.block < W.heap.size := by obtain ⟨m, hm⟩ := k1; exact DataW.trod_lt m _ _ _ hm
  have hw1 : ∀ z ∈ d1.weights Try.prog 27, z ≤ reachBytes := fun z hz => by simpa using List.all_eq_true.1 hsz z (DataW.weights_mem_each (j := 1) rfl rfl z hz)
  obtain ⟨c1, rfl, -⟩ := okWide_struct Try.underlying27 (hval 1 27 v1 rfl rfl)
  obtain ⟨fuel1, hf1⟩ := h1
  obtain ⟨x1, g1⟩ : ∃ x, RSlot Great 0 W (RMsg Great 0 W fuel1) c1.toList x := open_slot (fun m _ => open_msg m) hf1 hw1
  clear hA0 hval0 hsz0 hsz
  refine (walk (fuel0 + fuel1) W c0.toList x0 (RMsg.keep (Nat.le_refl _) (Keeps.refl _ _) _ _ (by omega) g0) c1.toList x1 (g1.keep (Nat.le_refl _) (by omega) (Keeps.refl _ _))).mono fun e W' ⟨he, bel⟩ => ?_
  subst he
  exact ⟨_, rfl, _, _, _, [], _, [], hW', trodAll_mk1 (shut_bool Try.underlying4 _), (trodAll_cons_mk (Below.trod laidOut (by kernel_rfl) (of_decide_eq_true (by kernel_rfl)) k0 bel lt0) (trodAll_cons_mk (Below.trod laidOut (by kernel_rfl) (of_decide_eq_true (by kernel_rfl)) k1 bel lt1) trodAll_mk0)), rfl, bel.frame _, fun h => by cases h⟩

theorem over : Rows.valueSizeRow.holds Try.pinned (OpenSpec.ofChange Rows.valueSizeSpec) :=
  OpenClaim.holds_of_wide 7 Try.f7 rfl rfl rfl rfl rfl rfl rfl ⟨rfl, rfl, rfl, rfl, rfl⟩ rfl rfl rfl rfl rfl (by kernel_rfl) Try.func7 (by kernel_rfl)
    (of_decide_eq_true (by kernel_rfl)) (by unfold Func.isWrapper; first | (rw [if_pos (by decide +kernel)]; kernel_rfl) | (rw [if_neg (by decide +kernel)]; exact ⟨rfl, rfl⟩))
    (fun os started H enc _ => lifted os started H enc)

/-- THE STATEMENT -/
theorem proved : Rows.ValueSizeSaid := over
#print axioms proved
end Go.Proofs.Ytogcnodgpgiacaa.valueSize
