-- PRINTED by print.py (a twelfth state) out of the translation. Not trusted: Lean checks it.
import Derived.Test.YtlokcpfkaijchaaPAx0
import Derived.Test.YtlokcpfkaijchaaPAx11
namespace Go.Proofs.Ytlokcpfkaijchaa.PA
open Go.RowKit Go.Proofs.YtlokcpfkaijchaaW.PrintWords Go.Proofs.YtlokcpfkaijchaaW.PrintLast
set_option linter.unusedVariables false
set_option linter.unusedSimpArgs false

/-! ### truffleref08_fieldMay: function 29 -/
mutual
def truffleref08_fieldMay.j0 : Nat → Bool → List (S77) → List (S81) → Int → ByteArray → Int → Int → Bool → Int → Int → Option (Bool)
  | 0, _, _, _, _, _, _, _, _, _, _ => none
  | k + 1, x29, x288000, x288001, x289000, x289001, x289002, x289003, x289004, x289005, x289006 => if x29 = true then (some false) else (if x289002 = 9 then (truffleref08_fieldMay.j1 k (wrap64 ((x288000.length : Int) - 1)) x288000 x288001 x289000 x289001 x289002 x289003 x289004 x289005 x289006) else (truffleref08_fieldMay.j1 k 0 x288000 x288001 x289000 x289001 x289002 x289003 x289004 x289005 x289006))
def truffleref08_fieldMay.j1 : Nat → Int → List (S77) → List (S81) → Int → ByteArray → Int → Int → Bool → Int → Int → Option (Bool)
  | 0, _, _, _, _, _, _, _, _, _, _ => none
  | k + 1, x5, x288000, x288001, x289000, x289001, x289002, x289003, x289004, x289005, x289006 => if x289002 = 6 then (truffleref08_fieldMay.j2 k (wrap64 ((x288001.length : Int) - 1)) x289000 x289001 x289002 x289003 x289004 x289005 x289006) else (truffleref08_fieldMay.j2 k x5 x289000 x289001 x289002 x289003 x289004 x289005 x289006)
def truffleref08_fieldMay.j2 : Nat → Int → Int → ByteArray → Int → Int → Bool → Int → Int → Option (Bool)
  | 0, _, _, _, _, _, _, _, _ => none
  | k + 1, x5, x289000, x289001, x289002, x289003, x289004, x289005, x289006 => if x289003 < 0 then (truffleref08_fieldMay.j3 k true x289000 x289001 x289002 x289003 x289004 x289005 x289006) else (truffleref08_fieldMay.j3 k (decide (x289003 > x5)) x289000 x289001 x289002 x289003 x289004 x289005 x289006)
def truffleref08_fieldMay.j3 : Nat → Bool → Int → ByteArray → Int → Int → Bool → Int → Int → Option (Bool)
  | 0, _, _, _, _, _, _, _, _ => none
  | k + 1, x52, x289000, x289001, x289002, x289003, x289004, x289005, x289006 => if x52 = true then (some false) else (if x289005 = (-1) then (if x289006 = 0 then (some true) else (if x289004 = true then (some false) else (some (x289005 == (-1))))) else ((truffleref08_keyed.f x289005).bind fun t290 => (if t290 = true then (if x289004 = true then (some false) else (if x289006 = 0 then (some true) else (some (x289005 == (-1))))) else (some false))))
end
def truffleref08_fieldMay.f (k : Nat) (l0_0 : List (S77)) (l0_1 : List (S81)) (a1_0 : Int) (a1_1 : ByteArray) (a1_2 : Int) (a1_3 : Int) (a1_4 : Bool) (a1_5 : Int) (a1_6 : Int) : Option (Bool) := (truffleref08_number.f a1_0).bind fun t289 => (if t289 = true then (if a1_2 < 0 then (truffleref08_fieldMay.j0 k true l0_0 l0_1 a1_0 a1_1 a1_2 a1_3 a1_4 a1_5 a1_6) else (if a1_2 > 9 then (truffleref08_fieldMay.j0 k true l0_0 l0_1 a1_0 a1_1 a1_2 a1_3 a1_4 a1_5 a1_6) else (if a1_6 < 0 then (truffleref08_fieldMay.j0 k true l0_0 l0_1 a1_0 a1_1 a1_2 a1_3 a1_4 a1_5 a1_6) else (truffleref08_fieldMay.j0 k (decide (a1_6 > 30)) l0_0 l0_1 a1_0 a1_1 a1_2 a1_3 a1_4 a1_5 a1_6)))) else (truffleref08_fieldMay.j0 k true l0_0 l0_1 a1_0 a1_1 a1_2 a1_3 a1_4 a1_5 a1_6))
theorem truffleref08_fieldMay.mono_l : ∀ k, (∀ y0 y1 y2 y3 y4 y5 y6 y7 y8 y9, LeO (truffleref08_fieldMay.j0 k y0 y1 y2 y3 y4 y5 y6 y7 y8 y9) (truffleref08_fieldMay.j0 (k + 1) y0 y1 y2 y3 y4 y5 y6 y7 y8 y9)) ∧ (∀ y0 y1 y2 y3 y4 y5 y6 y7 y8 y9, LeO (truffleref08_fieldMay.j1 k y0 y1 y2 y3 y4 y5 y6 y7 y8 y9) (truffleref08_fieldMay.j1 (k + 1) y0 y1 y2 y3 y4 y5 y6 y7 y8 y9)) ∧ (∀ y0 y1 y2 y3 y4 y5 y6 y7, LeO (truffleref08_fieldMay.j2 k y0 y1 y2 y3 y4 y5 y6 y7) (truffleref08_fieldMay.j2 (k + 1) y0 y1 y2 y3 y4 y5 y6 y7)) ∧ (∀ y0 y1 y2 y3 y4 y5 y6 y7, LeO (truffleref08_fieldMay.j3 k y0 y1 y2 y3 y4 y5 y6 y7) (truffleref08_fieldMay.j3 (k + 1) y0 y1 y2 y3 y4 y5 y6 y7))
  | 0 => ⟨fun _ _ _ _ _ _ _ _ _ _ r h => by simp [truffleref08_fieldMay.j0] at h, fun _ _ _ _ _ _ _ _ _ _ r h => by simp [truffleref08_fieldMay.j1] at h, fun _ _ _ _ _ _ _ _ r h => by simp [truffleref08_fieldMay.j2] at h, fun _ _ _ _ _ _ _ _ r h => by simp [truffleref08_fieldMay.j3] at h⟩
  | k + 1 => by
    obtain ⟨ih0, ih1, ih2, ih3⟩ := truffleref08_fieldMay.mono_l k
    refine ⟨?_, ?_, ?_, ?_⟩
    · intro y0 y1 y2 y3 y4 y5 y6 y7 y8 y9
      unfold truffleref08_fieldMay.j0
      repeat' first
      | (with_reducible exact ih0 _ _ _ _ _ _ _ _ _ _)
      | (with_reducible exact ih1 _ _ _ _ _ _ _ _ _ _)
      | (with_reducible exact ih2 _ _ _ _ _ _ _ _)
      | (with_reducible exact ih3 _ _ _ _ _ _ _ _)
      | (with_reducible exact LeO.refl _)
      | (with_reducible exact LeO.none _)
      | (with_reducible refine LeO.ite ?_ ?_)
      | (with_reducible refine LeO.bind ?_ (fun _ => ?_))
      | exact ih0 _ _ _ _ _ _ _ _ _ _
      | exact ih1 _ _ _ _ _ _ _ _ _ _
      | exact ih2 _ _ _ _ _ _ _ _
      | exact ih3 _ _ _ _ _ _ _ _
      | exact LeO.none _
      | refine LeO.ite ?_ ?_
      | refine LeO.bind ?_ (fun _ => ?_)
    · intro y0 y1 y2 y3 y4 y5 y6 y7 y8 y9
      unfold truffleref08_fieldMay.j1
      repeat' first
      | (with_reducible exact ih0 _ _ _ _ _ _ _ _ _ _)
      | (with_reducible exact ih1 _ _ _ _ _ _ _ _ _ _)
      | (with_reducible exact ih2 _ _ _ _ _ _ _ _)
      | (with_reducible exact ih3 _ _ _ _ _ _ _ _)
      | (with_reducible exact LeO.refl _)
      | (with_reducible exact LeO.none _)
      | (with_reducible refine LeO.ite ?_ ?_)
      | (with_reducible refine LeO.bind ?_ (fun _ => ?_))
      | exact ih0 _ _ _ _ _ _ _ _ _ _
      | exact ih1 _ _ _ _ _ _ _ _ _ _
      | exact ih2 _ _ _ _ _ _ _ _
      | exact ih3 _ _ _ _ _ _ _ _
      | exact LeO.none _
      | refine LeO.ite ?_ ?_
      | refine LeO.bind ?_ (fun _ => ?_)
    · intro y0 y1 y2 y3 y4 y5 y6 y7
      unfold truffleref08_fieldMay.j2
      repeat' first
      | (with_reducible exact ih0 _ _ _ _ _ _ _ _ _ _)
      | (with_reducible exact ih1 _ _ _ _ _ _ _ _ _ _)
      | (with_reducible exact ih2 _ _ _ _ _ _ _ _)
      | (with_reducible exact ih3 _ _ _ _ _ _ _ _)
      | (with_reducible exact LeO.refl _)
      | (with_reducible exact LeO.none _)
      | (with_reducible refine LeO.ite ?_ ?_)
      | (with_reducible refine LeO.bind ?_ (fun _ => ?_))
      | exact ih0 _ _ _ _ _ _ _ _ _ _
      | exact ih1 _ _ _ _ _ _ _ _ _ _
      | exact ih2 _ _ _ _ _ _ _ _
      | exact ih3 _ _ _ _ _ _ _ _
      | exact LeO.none _
      | refine LeO.ite ?_ ?_
      | refine LeO.bind ?_ (fun _ => ?_)
    · intro y0 y1 y2 y3 y4 y5 y6 y7
      unfold truffleref08_fieldMay.j3
      repeat' first
      | (with_reducible exact ih0 _ _ _ _ _ _ _ _ _ _)
      | (with_reducible exact ih1 _ _ _ _ _ _ _ _ _ _)
      | (with_reducible exact ih2 _ _ _ _ _ _ _ _)
      | (with_reducible exact ih3 _ _ _ _ _ _ _ _)
      | (with_reducible exact LeO.refl _)
      | (with_reducible exact LeO.none _)
      | (with_reducible refine LeO.ite ?_ ?_)
      | (with_reducible refine LeO.bind ?_ (fun _ => ?_))
      | exact ih0 _ _ _ _ _ _ _ _ _ _
      | exact ih1 _ _ _ _ _ _ _ _ _ _
      | exact ih2 _ _ _ _ _ _ _ _
      | exact ih3 _ _ _ _ _ _ _ _
      | exact LeO.none _
      | refine LeO.ite ?_ ?_
      | refine LeO.bind ?_ (fun _ => ?_)
theorem truffleref08_fieldMay.mono : ∀ a0 a1 a2 a3 a4 a5 a6 a7 a8 k, LeO (truffleref08_fieldMay.f k a0 a1 a2 a3 a4 a5 a6 a7 a8) (truffleref08_fieldMay.f (k + 1) a0 a1 a2 a3 a4 a5 a6 a7 a8) := by
  intro a0 a1 a2 a3 a4 a5 a6 a7 a8 k
  obtain ⟨ih0, ih1, ih2, ih3⟩ := truffleref08_fieldMay.mono_l k
  unfold truffleref08_fieldMay.f
  repeat' first
      | (with_reducible exact ih0 _ _ _ _ _ _ _ _ _ _)
      | (with_reducible exact ih1 _ _ _ _ _ _ _ _ _ _)
      | (with_reducible exact ih2 _ _ _ _ _ _ _ _)
      | (with_reducible exact ih3 _ _ _ _ _ _ _ _)
      | (with_reducible exact LeO.refl _)
      | (with_reducible exact LeO.none _)
      | (with_reducible refine LeO.ite ?_ ?_)
      | (with_reducible refine LeO.bind ?_ (fun _ => ?_))
      | exact ih0 _ _ _ _ _ _ _ _ _ _
      | exact ih1 _ _ _ _ _ _ _ _ _ _
      | exact ih2 _ _ _ _ _ _ _ _
      | exact ih3 _ _ _ _ _ _ _ _
      | exact LeO.none _
      | refine LeO.ite ?_ ?_
      | refine LeO.bind ?_ (fun _ => ?_)
set_option maxHeartbeats 8000000 in
set_option maxRecDepth 100000 in
theorem truffleref08_fieldMay.calls (k : Nat) (A0_0 : Option Addr) (c0_0 : Nat) (l0_0 : List (S77)) (A0_1 : Option Addr) (c0_1 : Nat) (l0_1 : List (S81)) (a1_0 : Int) (a1_1 : ByteArray) (a1_2 : Int) (a1_3 : Int) (a1_4 : Bool) (a1_5 : Int) (a1_6 : Int) (r : Bool) (w : World) (hr0_0 : Kd.C k77 w A0_0 l0_0.length l0_0) (hc0_0 : l0_0.length ≤ c0_0) (hr0_1 : Kd.C k81 w A0_1 l0_1.length l0_1) (hc0_1 : l0_1.length ≤ c0_1) (h : truffleref08_fieldMay.f k l0_0 l0_1 a1_0 a1_1 a1_2 a1_3 a1_4 a1_5 a1_6 = some r) :
    Calls Try.prog 29 #[.agg #[.slice A0_0 l0_0.length c0_0, .slice A0_1 l0_1.length c0_1], .agg #[.int .i64 a1_0, .string a1_1, .int .i64 a1_2, .int .i64 a1_3, .bool a1_4, .int .i64 a1_5, .int .i64 a1_6]] w fun e w' => e = .returned (.bool r) ∧ Below w.heap.size w w' := by
  have hu25 := Try.underlying25
  have hu38 := Try.underlying38
  have HR0_0 := Aside0.mk hr0_0
  have HC0_0 := Aside0.mk hc0_0
  clear hr0_0 hc0_0
  have HR0_1 := Aside0.mk hr0_1
  have HC0_1 := Aside0.mk hc0_1
  clear hr0_1 hc0_1
  have HB := Aside0.mk (Below.refl w.heap.size w)
  have H : ((truffleref08_number.f a1_0).bind fun t289 => (if t289 = true then (if a1_2 < 0 then (truffleref08_fieldMay.j0 k true l0_0 l0_1 a1_0 a1_1 a1_2 a1_3 a1_4 a1_5 a1_6) else (if a1_2 > 9 then (truffleref08_fieldMay.j0 k true l0_0 l0_1 a1_0 a1_1 a1_2 a1_3 a1_4 a1_5 a1_6) else (if a1_6 < 0 then (truffleref08_fieldMay.j0 k true l0_0 l0_1 a1_0 a1_1 a1_2 a1_3 a1_4 a1_5 a1_6) else (truffleref08_fieldMay.j0 k (decide (a1_6 > 30)) l0_0 l0_1 a1_0 a1_1 a1_2 a1_3 a1_4 a1_5 a1_6)))) else (truffleref08_fieldMay.j0 k true l0_0 l0_1 a1_0 a1_1 a1_2 a1_3 a1_4 a1_5 a1_6))) = some r := h
  clear h
  have HC3 := Aside0.mk H
  clear H
  go_enter Try.func29, Try.ntmps29
  go_upto_region 1 with (first | ((with_reducible refine gate_dst (N := 2) rfl ?_); refine box_event ?hg (N := 2) ?hd (cs := #[.slice A0_0 l0_0.length c0_0, .slice A0_1 l0_1.length c0_1]) (t := 25) ?hr ?_; (case hd => rfl); (case hg => rfl); (case hr => first | (go_simp; done) | (go_simp; rfl)); intro gb287 hg w4 hbox hb; have n0_ := Aside0.mk (below_step (by repeat (first | (with_reducible first | exact HB.out | apply below_alloc | apply pw_below_drewN | apply below_drew1) | exact HB.out)) hb); have n1_ := Aside0.mk (hbox); have n2_ := Aside0.mk ((by rw [hg]; exact (below_size (by repeat (first | (with_reducible first | exact HB.out | apply below_alloc | apply pw_below_drewN | apply below_drew1) | exact HB.out))) : w.heap.size ≤ gb287)); have n3_ := Aside0.mk ((by rw [hg]; exact (below_size (by repeat (first | (with_reducible first | exact HB.out | apply below_alloc | apply pw_below_drewN | apply below_drew1) | exact HB.out))) : w.heap.size ≤ gb287)); clear HB; have HB := n0_; have BK287 := n1_; have GW287 := n2_; have GE287 := n3_; clear n0_ n1_ n2_ n3_; clear hb hbox hg) | ((with_reducible refine gate_dst (N := 3) rfl ?_); refine box_event ?hg (N := 3) ?hd (cs := #[.int .i64 a1_0, .string a1_1, .int .i64 a1_2, .int .i64 a1_3, .bool a1_4, .int .i64 a1_5, .int .i64 a1_6]) (t := 38) ?hr ?_; (case hd => rfl); (case hg => rfl); (case hr => first | (go_simp; done) | (go_simp; rfl)); intro gb288 hg w5 hbox hb; have n0_ := Aside0.mk (blk_below (g := gb287) (o := .cells #[.slice A0_0 l0_0.length c0_0, .slice A0_1 l0_1.length c0_1] 25 (0, 0)) (by (with_reducible repeat (first | refine blk_drewN ?_ _ | refine blk_drew ?_ | refine blk_alloc ?_ _)); exact BK287.out) hb); have n1_ := Aside0.mk (below_step (by repeat (first | (with_reducible first | exact HB.out | apply below_alloc | apply pw_below_drewN | apply below_drew1 | refine below_set ?_ GE287.out) | exact HB.out)) hb); have n2_ := Aside0.mk (hbox); have n3_ := Aside0.mk ((by rw [hg]; exact (below_size (by repeat (first | (with_reducible first | exact HB.out | apply below_alloc | apply pw_below_drewN | apply below_drew1 | refine below_set ?_ GE287.out) | exact HB.out))) : w.heap.size ≤ gb288)); have n4_ := Aside0.mk ((by rw [hg]; exact (below_size (by repeat (first | (with_reducible first | exact HB.out | apply below_alloc | apply pw_below_drewN | apply below_drew1 | refine below_set ?_ GE287.out) | exact HB.out))) : w.heap.size ≤ gb288)); have n5_ := Aside0.mk ((by rw [hg]; exact Nat.ne_of_lt (blk_lt (g := gb287) (o := .cells #[.slice A0_0 l0_0.length c0_0, .slice A0_1 l0_1.length c0_1] 25 (0, 0)) (by (with_reducible repeat (first | refine blk_drewN ?_ _ | refine blk_drew ?_ | refine blk_alloc ?_ _)); exact BK287.out)) : gb287 ≠ gb288)); have n6_ := Aside0.mk ((by rw [hg]; exact Nat.ne_of_gt (blk_lt (g := gb287) (o := .cells #[.slice A0_0 l0_0.length c0_0, .slice A0_1 l0_1.length c0_1] 25 (0, 0)) (by (with_reducible repeat (first | refine blk_drewN ?_ _ | refine blk_drew ?_ | refine blk_alloc ?_ _)); exact BK287.out)) : gb288 ≠ gb287)); clear BK287; clear HB; have BK287 := n0_; have HB := n1_; have BK288 := n2_; have GW288 := n3_; have GE288 := n4_; have NB287_288 := n5_; have NB288_287 := n6_; clear n0_ n1_ n2_ n3_ n4_ n5_ n6_; clear hb hbox hg))
  (try simp only [Act.put, List.setIfInBounds_toArray, List.set_cons_zero, List.set_cons_succ])
  go_cut [29] (fun v29 wc => ∃ (kq : Nat) (x29_2 : Bool), v29 = .bool x29_2 ∧ Aside0 (truffleref08_fieldMay.j0 kq x29_2 l0_0 l0_1 a1_0 a1_1 a1_2 a1_3 a1_4 a1_5 a1_6 = some r) ∧ Aside0 (kq ≤ k) ∧ Aside0 (wc.heap[gb287]? = some (.cells #[(.slice A0_0 l0_0.length c0_0), (.slice A0_1 l0_1.length c0_1)] 25 (0, 0))) ∧ Aside0 (wc.heap[gb288]? = some (.cells #[.int .i64 a1_0, .string a1_1, .int .i64 a1_2, .int .i64 a1_3, .bool a1_4, .int .i64 a1_5, .int .i64 a1_6] 38 (0, 0))) ∧ Aside0 (Below w.heap.size w wc))
  case first =>
    have H := HC3.out
    clear HC3
    replace H := Option.bind_eq_some_iff.mp H
    obtain ⟨t289, A60, H⟩ := H
    replace H : (if t289 = true then (if a1_2 < 0 then (truffleref08_fieldMay.j0 k true l0_0 l0_1 a1_0 a1_1 a1_2 a1_3 a1_4 a1_5 a1_6) else (if a1_2 > 9 then (truffleref08_fieldMay.j0 k true l0_0 l0_1 a1_0 a1_1 a1_2 a1_3 a1_4 a1_5 a1_6) else (if a1_6 < 0 then (truffleref08_fieldMay.j0 k true l0_0 l0_1 a1_0 a1_1 a1_2 a1_3 a1_4 a1_5 a1_6) else (truffleref08_fieldMay.j0 k (decide (a1_6 > 30)) l0_0 l0_1 a1_0 a1_1 a1_2 a1_3 a1_4 a1_5 a1_6)))) else (truffleref08_fieldMay.j0 k true l0_0 l0_1 a1_0 a1_1 a1_2 a1_3 a1_4 a1_5 a1_6)) = some r := H
    have A6 := Aside0.mk A60
    clear A60
    by_cases c7 : t289 = true
    · subst c7
      have H1 : (if a1_2 < 0 then (truffleref08_fieldMay.j0 k true l0_0 l0_1 a1_0 a1_1 a1_2 a1_3 a1_4 a1_5 a1_6) else (if a1_2 > 9 then (truffleref08_fieldMay.j0 k true l0_0 l0_1 a1_0 a1_1 a1_2 a1_3 a1_4 a1_5 a1_6) else (if a1_6 < 0 then (truffleref08_fieldMay.j0 k true l0_0 l0_1 a1_0 a1_1 a1_2 a1_3 a1_4 a1_5 a1_6) else (truffleref08_fieldMay.j0 k (decide (a1_6 > 30)) l0_0 l0_1 a1_0 a1_1 a1_2 a1_3 a1_4 a1_5 a1_6)))) = some r := by rw [if_pos rfl] at H; exact H
      clear H
      have H := H1
      clear H1
      by_cases c8 : a1_2 < 0
      · rw [if_pos c8] at H
        have c8b0 : decide (a1_2 < 0) = true := decide_eq_true c8
        clear c8
        (first | rw [c8b0] | (simp only [i64_w, i32_w]; rw [c8b0]) | skip)
        have H' := Aside0.mk H
        clear H
        have hnb9 := NB288_287.out
        have hnc9 := NB287_288.out
        have hcz10_0 : w5.cell? ⟨gb288, 0, none⟩ = some (.int .i64 a1_0) := (blk_cell BK288.out 0).trans rfl
        have hcz10_1 : w5.cell? ⟨gb288, 1, none⟩ = some (.string a1_1) := (blk_cell BK288.out 1).trans rfl
        have hcz10_2 : w5.cell? ⟨gb288, 2, none⟩ = some (.int .i64 a1_2) := (blk_cell BK288.out 2).trans rfl
        have hcz10_3 : w5.cell? ⟨gb288, 3, none⟩ = some (.int .i64 a1_3) := (blk_cell BK288.out 3).trans rfl
        have hcz10_4 : w5.cell? ⟨gb288, 4, none⟩ = some (.bool a1_4) := (blk_cell BK288.out 4).trans rfl
        have hcz10_5 : w5.cell? ⟨gb288, 5, none⟩ = some (.int .i64 a1_5) := (blk_cell BK288.out 5).trans rfl
        have hcz10_6 : w5.cell? ⟨gb288, 6, none⟩ = some (.int .i64 a1_6) := (blk_cell BK288.out 6).trans rfl
        have hfz10_0 := blk_frozen BK288.out 0
        have hfz10_1 := blk_frozen BK288.out 1
        have hfz10_2 := blk_frozen BK288.out 2
        have hfz10_3 := blk_frozen BK288.out 3
        have hfz10_4 := blk_frozen BK288.out 4
        have hfz10_5 := blk_frozen BK288.out 5
        have hfz10_6 := blk_frozen BK288.out 6
        go_wp2_with (first | ((with_reducible refine gate_callee (f := 51) rfl ?_); refine goesL_ (some 8) rfl rfl Try.func51 (by kernel_rfl) rfl #[.int .i64 a1_0] rfl (by (try simp only [List.map_toArray, List.map_cons, List.map_nil]); first | done | rfl | (simp only [List.length_drop, List.length_take]; rfl)) ?_; (with_reducible refine (truffleref08_number.calls a1_0 true _ A6.out).mono ?_); rintro e w' ⟨rfl, ⟨nd, rfl⟩⟩; refine ⟨_, rfl, ?_⟩))
        go_meet
        case rel => exact ⟨_, (true), (by first | rfl | (simp; done) | (simp [*]; done)), H', ⟨by first | omega | exact Nat.le_refl _⟩, ⟨by (with_reducible repeat (first | refine blk_drewN ?_ _ | refine blk_drew ?_ | refine blk_alloc ?_ _)); exact BK287.out⟩, ⟨by (with_reducible repeat (first | refine blk_drewN ?_ _ | refine blk_drew ?_ | refine blk_alloc ?_ _)); exact BK288.out⟩, ⟨by repeat (first | (with_reducible first | exact HB.out | apply below_alloc | apply pw_below_drewN | apply below_drew1 | refine below_set ?_ GE287.out | refine below_set ?_ GE288.out) | exact HB.out)⟩⟩
      · rw [if_neg c8] at H
        have c8b0 : decide (a1_2 < 0) = false := decide_eq_false c8
        clear c8
        (first | rw [c8b0] | (simp only [i64_w, i32_w]; rw [c8b0]) | skip)
        by_cases c11 : a1_2 > 9
        · rw [if_pos c11] at H
          have c11b0 : decide (9 < a1_2) = true := decide_eq_true c11
          clear c11
          have H' := Aside0.mk H
          clear H
          have hnb12 := NB288_287.out
          have hnc12 := NB287_288.out
          have hcz13_0 : w5.cell? ⟨gb288, 0, none⟩ = some (.int .i64 a1_0) := (blk_cell BK288.out 0).trans rfl
          have hcz13_1 : w5.cell? ⟨gb288, 1, none⟩ = some (.string a1_1) := (blk_cell BK288.out 1).trans rfl
          have hcz13_2 : w5.cell? ⟨gb288, 2, none⟩ = some (.int .i64 a1_2) := (blk_cell BK288.out 2).trans rfl
          have hcz13_3 : w5.cell? ⟨gb288, 3, none⟩ = some (.int .i64 a1_3) := (blk_cell BK288.out 3).trans rfl
          have hcz13_4 : w5.cell? ⟨gb288, 4, none⟩ = some (.bool a1_4) := (blk_cell BK288.out 4).trans rfl
          have hcz13_5 : w5.cell? ⟨gb288, 5, none⟩ = some (.int .i64 a1_5) := (blk_cell BK288.out 5).trans rfl
          have hcz13_6 : w5.cell? ⟨gb288, 6, none⟩ = some (.int .i64 a1_6) := (blk_cell BK288.out 6).trans rfl
          have hfz13_0 := blk_frozen BK288.out 0
          have hfz13_1 := blk_frozen BK288.out 1
          have hfz13_2 := blk_frozen BK288.out 2
          have hfz13_3 := blk_frozen BK288.out 3
          have hfz13_4 := blk_frozen BK288.out 4
          have hfz13_5 := blk_frozen BK288.out 5
          have hfz13_6 := blk_frozen BK288.out 6
          go_wp2_with (first | ((with_reducible refine gate_callee (f := 51) rfl ?_); refine goesL_ (some 8) rfl rfl Try.func51 (by kernel_rfl) rfl #[.int .i64 a1_0] rfl (by (try simp only [List.map_toArray, List.map_cons, List.map_nil]); first | done | rfl | (simp only [List.length_drop, List.length_take]; rfl)) ?_; (with_reducible refine (truffleref08_number.calls a1_0 true _ A6.out).mono ?_); rintro e w' ⟨rfl, ⟨nd, rfl⟩⟩; refine ⟨_, rfl, ?_⟩))
          go_meet
          case rel => exact ⟨_, (true), (by first | rfl | (simp; done) | (simp [*]; done)), H', ⟨by first | omega | exact Nat.le_refl _⟩, ⟨by (with_reducible repeat (first | refine blk_drewN ?_ _ | refine blk_drew ?_ | refine blk_alloc ?_ _)); exact BK287.out⟩, ⟨by (with_reducible repeat (first | refine blk_drewN ?_ _ | refine blk_drew ?_ | refine blk_alloc ?_ _)); exact BK288.out⟩, ⟨by repeat (first | (with_reducible first | exact HB.out | apply below_alloc | apply pw_below_drewN | apply below_drew1 | refine below_set ?_ GE287.out | refine below_set ?_ GE288.out) | exact HB.out)⟩⟩
        · rw [if_neg c11] at H
          have c11b0 : decide (9 < a1_2) = false := decide_eq_false c11
          clear c11
          by_cases c14 : a1_6 < 0
          · rw [if_pos c14] at H
            have c14b0 : decide (a1_6 < 0) = true := decide_eq_true c14
            clear c14
            have H' := Aside0.mk H
            clear H
            have hnb15 := NB288_287.out
            have hnc15 := NB287_288.out
            have hcz16_0 : w5.cell? ⟨gb288, 0, none⟩ = some (.int .i64 a1_0) := (blk_cell BK288.out 0).trans rfl
            have hcz16_1 : w5.cell? ⟨gb288, 1, none⟩ = some (.string a1_1) := (blk_cell BK288.out 1).trans rfl
            have hcz16_2 : w5.cell? ⟨gb288, 2, none⟩ = some (.int .i64 a1_2) := (blk_cell BK288.out 2).trans rfl
            have hcz16_3 : w5.cell? ⟨gb288, 3, none⟩ = some (.int .i64 a1_3) := (blk_cell BK288.out 3).trans rfl
            have hcz16_4 : w5.cell? ⟨gb288, 4, none⟩ = some (.bool a1_4) := (blk_cell BK288.out 4).trans rfl
            have hcz16_5 : w5.cell? ⟨gb288, 5, none⟩ = some (.int .i64 a1_5) := (blk_cell BK288.out 5).trans rfl
            have hcz16_6 : w5.cell? ⟨gb288, 6, none⟩ = some (.int .i64 a1_6) := (blk_cell BK288.out 6).trans rfl
            have hfz16_0 := blk_frozen BK288.out 0
            have hfz16_1 := blk_frozen BK288.out 1
            have hfz16_2 := blk_frozen BK288.out 2
            have hfz16_3 := blk_frozen BK288.out 3
            have hfz16_4 := blk_frozen BK288.out 4
            have hfz16_5 := blk_frozen BK288.out 5
            have hfz16_6 := blk_frozen BK288.out 6
            go_wp2_with (first | ((with_reducible refine gate_callee (f := 51) rfl ?_); refine goesL_ (some 8) rfl rfl Try.func51 (by kernel_rfl) rfl #[.int .i64 a1_0] rfl (by (try simp only [List.map_toArray, List.map_cons, List.map_nil]); first | done | rfl | (simp only [List.length_drop, List.length_take]; rfl)) ?_; (with_reducible refine (truffleref08_number.calls a1_0 true _ A6.out).mono ?_); rintro e w' ⟨rfl, ⟨nd, rfl⟩⟩; refine ⟨_, rfl, ?_⟩))
            go_meet
            case rel => exact ⟨_, (true), (by first | rfl | (simp; done) | (simp [*]; done)), H', ⟨by first | omega | exact Nat.le_refl _⟩, ⟨by (with_reducible repeat (first | refine blk_drewN ?_ _ | refine blk_drew ?_ | refine blk_alloc ?_ _)); exact BK287.out⟩, ⟨by (with_reducible repeat (first | refine blk_drewN ?_ _ | refine blk_drew ?_ | refine blk_alloc ?_ _)); exact BK288.out⟩, ⟨by repeat (first | (with_reducible first | exact HB.out | apply below_alloc | apply pw_below_drewN | apply below_drew1 | refine below_set ?_ GE287.out | refine below_set ?_ GE288.out) | exact HB.out)⟩⟩
          · rw [if_neg c14] at H
            have c14b0 : decide (a1_6 < 0) = false := decide_eq_false c14
            clear c14
            have H' := Aside0.mk H
            clear H
            have hnb17 := NB288_287.out
            have hnc17 := NB287_288.out
            have hcz18_0 : w5.cell? ⟨gb288, 0, none⟩ = some (.int .i64 a1_0) := (blk_cell BK288.out 0).trans rfl
            have hcz18_1 : w5.cell? ⟨gb288, 1, none⟩ = some (.string a1_1) := (blk_cell BK288.out 1).trans rfl
            have hcz18_2 : w5.cell? ⟨gb288, 2, none⟩ = some (.int .i64 a1_2) := (blk_cell BK288.out 2).trans rfl
            have hcz18_3 : w5.cell? ⟨gb288, 3, none⟩ = some (.int .i64 a1_3) := (blk_cell BK288.out 3).trans rfl
            have hcz18_4 : w5.cell? ⟨gb288, 4, none⟩ = some (.bool a1_4) := (blk_cell BK288.out 4).trans rfl
            have hcz18_5 : w5.cell? ⟨gb288, 5, none⟩ = some (.int .i64 a1_5) := (blk_cell BK288.out 5).trans rfl
            have hcz18_6 : w5.cell? ⟨gb288, 6, none⟩ = some (.int .i64 a1_6) := (blk_cell BK288.out 6).trans rfl
            have hfz18_0 := blk_frozen BK288.out 0
            have hfz18_1 := blk_frozen BK288.out 1
            have hfz18_2 := blk_frozen BK288.out 2
            have hfz18_3 := blk_frozen BK288.out 3
            have hfz18_4 := blk_frozen BK288.out 4
            have hfz18_5 := blk_frozen BK288.out 5
            have hfz18_6 := blk_frozen BK288.out 6
            go_wp2_with (first | ((with_reducible refine gate_callee (f := 51) rfl ?_); refine goesL_ (some 8) rfl rfl Try.func51 (by kernel_rfl) rfl #[.int .i64 a1_0] rfl (by (try simp only [List.map_toArray, List.map_cons, List.map_nil]); first | done | rfl | (simp only [List.length_drop, List.length_take]; rfl)) ?_; (with_reducible refine (truffleref08_number.calls a1_0 true _ A6.out).mono ?_); rintro e w' ⟨rfl, ⟨nd, rfl⟩⟩; refine ⟨_, rfl, ?_⟩))
            go_meet
            case rel => exact ⟨_, (decide (a1_6 > 30)), (by first | rfl | (simp; done) | (simp [*]; done)), H', ⟨by first | omega | exact Nat.le_refl _⟩, ⟨by (with_reducible repeat (first | refine blk_drewN ?_ _ | refine blk_drew ?_ | refine blk_alloc ?_ _)); exact BK287.out⟩, ⟨by (with_reducible repeat (first | refine blk_drewN ?_ _ | refine blk_drew ?_ | refine blk_alloc ?_ _)); exact BK288.out⟩, ⟨by repeat (first | (with_reducible first | exact HB.out | apply below_alloc | apply pw_below_drewN | apply below_drew1 | refine below_set ?_ GE287.out | refine below_set ?_ GE288.out) | exact HB.out)⟩⟩
    · replace c7 := Bool.eq_false_iff.mpr c7
      subst c7
      have H1 : (truffleref08_fieldMay.j0 k true l0_0 l0_1 a1_0 a1_1 a1_2 a1_3 a1_4 a1_5 a1_6) = some r := by rw [if_neg (show ¬ (false = true) by decide)] at H; exact H
      clear H
      have H := H1
      clear H1
      have H' := Aside0.mk H
      clear H
      have hnb19 := NB288_287.out
      have hnc19 := NB287_288.out
      have hcz20_0 : w5.cell? ⟨gb288, 0, none⟩ = some (.int .i64 a1_0) := (blk_cell BK288.out 0).trans rfl
      have hcz20_1 : w5.cell? ⟨gb288, 1, none⟩ = some (.string a1_1) := (blk_cell BK288.out 1).trans rfl
      have hcz20_2 : w5.cell? ⟨gb288, 2, none⟩ = some (.int .i64 a1_2) := (blk_cell BK288.out 2).trans rfl
      have hcz20_3 : w5.cell? ⟨gb288, 3, none⟩ = some (.int .i64 a1_3) := (blk_cell BK288.out 3).trans rfl
      have hcz20_4 : w5.cell? ⟨gb288, 4, none⟩ = some (.bool a1_4) := (blk_cell BK288.out 4).trans rfl
      have hcz20_5 : w5.cell? ⟨gb288, 5, none⟩ = some (.int .i64 a1_5) := (blk_cell BK288.out 5).trans rfl
      have hcz20_6 : w5.cell? ⟨gb288, 6, none⟩ = some (.int .i64 a1_6) := (blk_cell BK288.out 6).trans rfl
      have hfz20_0 := blk_frozen BK288.out 0
      have hfz20_1 := blk_frozen BK288.out 1
      have hfz20_2 := blk_frozen BK288.out 2
      have hfz20_3 := blk_frozen BK288.out 3
      have hfz20_4 := blk_frozen BK288.out 4
      have hfz20_5 := blk_frozen BK288.out 5
      have hfz20_6 := blk_frozen BK288.out 6
      go_wp2_with (first | ((with_reducible refine gate_callee (f := 51) rfl ?_); refine goesL_ (some 8) rfl rfl Try.func51 (by kernel_rfl) rfl #[.int .i64 a1_0] rfl (by (try simp only [List.map_toArray, List.map_cons, List.map_nil]); first | done | rfl | (simp only [List.length_drop, List.length_take]; rfl)) ?_; (with_reducible refine (truffleref08_number.calls a1_0 false _ A6.out).mono ?_); rintro e w' ⟨rfl, ⟨nd, rfl⟩⟩; refine ⟨_, rfl, ?_⟩))
      go_meet
      case rel => exact ⟨_, (true), (by first | rfl | (simp; done) | (simp [*]; done)), H', ⟨by first | omega | exact Nat.le_refl _⟩, ⟨by (with_reducible repeat (first | refine blk_drewN ?_ _ | refine blk_drew ?_ | refine blk_alloc ?_ _)); exact BK287.out⟩, ⟨by (with_reducible repeat (first | refine blk_drewN ?_ _ | refine blk_drew ?_ | refine blk_alloc ?_ _)); exact BK288.out⟩, ⟨by repeat (first | (with_reducible first | exact HB.out | apply below_alloc | apply pw_below_drewN | apply below_drew1 | refine below_set ?_ GE287.out | refine below_set ?_ GE288.out) | exact HB.out)⟩⟩
  case rest =>
    clear HC3
    try clear c1
    try clear c2
    try clear p2
    try clear c5
    try clear c7
    try clear c8
    try clear c8b0
    try clear c9
    try clear c11
    try clear c11b0
    try clear c12
    try clear c14
    try clear c14b0
    try clear c15
    try clear c17
    try clear c19
    try clear hcz10_0
    try clear hcz10_1
    try clear hcz10_2
    try clear hcz10_3
    try clear hcz10_4
    try clear hcz10_5
    try clear hcz10_6
    try clear hcz13_0
    try clear hcz13_1
    try clear hcz13_2
    try clear hcz13_3
    try clear hcz13_4
    try clear hcz13_5
    try clear hcz13_6
    try clear hcz16_0
    try clear hcz16_1
    try clear hcz16_2
    try clear hcz16_3
    try clear hcz16_4
    try clear hcz16_5
    try clear hcz16_6
    try clear hcz18_0
    try clear hcz18_1
    try clear hcz18_2
    try clear hcz18_3
    try clear hcz18_4
    try clear hcz18_5
    try clear hcz18_6
    try clear hcz20_0
    try clear hcz20_1
    try clear hcz20_2
    try clear hcz20_3
    try clear hcz20_4
    try clear hcz20_5
    try clear hcz20_6
    try clear hfz10_0
    try clear hfz10_1
    try clear hfz10_2
    try clear hfz10_3
    try clear hfz10_4
    try clear hfz10_5
    try clear hfz10_6
    try clear hfz13_0
    try clear hfz13_1
    try clear hfz13_2
    try clear hfz13_3
    try clear hfz13_4
    try clear hfz13_5
    try clear hfz13_6
    try clear hfz16_0
    try clear hfz16_1
    try clear hfz16_2
    try clear hfz16_3
    try clear hfz16_4
    try clear hfz16_5
    try clear hfz16_6
    try clear hfz18_0
    try clear hfz18_1
    try clear hfz18_2
    try clear hfz18_3
    try clear hfz18_4
    try clear hfz18_5
    try clear hfz18_6
    try clear hfz20_0
    try clear hfz20_1
    try clear hfz20_2
    try clear hfz20_3
    try clear hfz20_4
    try clear hfz20_5
    try clear hfz20_6
    obtain ⟨kq, x29_2, rfl, HA, HJ2, BK287, BK288, HB⟩ := hcut
    cases kq with
    | zero => exact absurd HA.out (by simp [truffleref08_fieldMay.j0])
    | succ kj2 =>
      have H := HA.out
      clear HA
      simp only [truffleref08_fieldMay.j0] at H
      by_cases c21 : x29_2 = true
      · subst c21
        have H1 : (some false) = some r := by rw [if_pos rfl] at H; exact H
        clear H
        have H := H1
        clear H1
        obtain rfl := Option.some.inj H
        go_wp2
        go_ret
        exact ⟨by first | rfl | (simp [errW_none, errW_some] <;> rfl) | (simp [*, errW_none, errW_some] <;> rfl), by repeat (first | (with_reducible first | exact HB.out | apply below_alloc | apply pw_below_drewN | apply below_drew1 | refine below_set ?_ GE287.out | refine below_set ?_ GE288.out) | exact HB.out)⟩
      · replace c21 := Bool.eq_false_iff.mpr c21
        subst c21
        have H1 : (if a1_2 = 9 then (truffleref08_fieldMay.j1 kj2 (wrap64 ((l0_0.length : Int) - 1)) l0_0 l0_1 a1_0 a1_1 a1_2 a1_3 a1_4 a1_5 a1_6) else (truffleref08_fieldMay.j1 kj2 0 l0_0 l0_1 a1_0 a1_1 a1_2 a1_3 a1_4 a1_5 a1_6)) = some r := by rw [if_neg (show ¬ (false = true) by decide)] at H; exact H
        clear H
        have H := H1
        clear H1
        have HC22 := Aside0.mk H
        clear H
        have hnb23 := NB288_287.out
        have hnc23 := NB287_288.out
        have hcz24_0 : wc.cell? ⟨gb288, 0, none⟩ = some (.int .i64 a1_0) := (blk_cell BK288.out 0).trans rfl
        have hcz24_1 : wc.cell? ⟨gb288, 1, none⟩ = some (.string a1_1) := (blk_cell BK288.out 1).trans rfl
        have hcz24_2 : wc.cell? ⟨gb288, 2, none⟩ = some (.int .i64 a1_2) := (blk_cell BK288.out 2).trans rfl
        have hcz24_3 : wc.cell? ⟨gb288, 3, none⟩ = some (.int .i64 a1_3) := (blk_cell BK288.out 3).trans rfl
        have hcz24_4 : wc.cell? ⟨gb288, 4, none⟩ = some (.bool a1_4) := (blk_cell BK288.out 4).trans rfl
        have hcz24_5 : wc.cell? ⟨gb288, 5, none⟩ = some (.int .i64 a1_5) := (blk_cell BK288.out 5).trans rfl
        have hcz24_6 : wc.cell? ⟨gb288, 6, none⟩ = some (.int .i64 a1_6) := (blk_cell BK288.out 6).trans rfl
        have hfz24_0 := blk_frozen BK288.out 0
        have hfz24_1 := blk_frozen BK288.out 1
        have hfz24_2 := blk_frozen BK288.out 2
        have hfz24_3 := blk_frozen BK288.out 3
        have hfz24_4 := blk_frozen BK288.out 4
        have hfz24_5 := blk_frozen BK288.out 5
        have hfz24_6 := blk_frozen BK288.out 6
        go_upto_if 32 with (fail)
        go_cut [5] (fun v5 wc => ∃ (kq : Nat) (x5_21 : Int), v5 = .int .i64 x5_21 ∧ Aside0 (truffleref08_fieldMay.j1 kq x5_21 l0_0 l0_1 a1_0 a1_1 a1_2 a1_3 a1_4 a1_5 a1_6 = some r) ∧ Aside0 (kq ≤ kj2) ∧ Aside0 (wc.heap[gb287]? = some (.cells #[(.slice A0_0 l0_0.length c0_0), (.slice A0_1 l0_1.length c0_1)] 25 (0, 0))) ∧ Aside0 (wc.heap[gb288]? = some (.cells #[.int .i64 a1_0, .string a1_1, .int .i64 a1_2, .int .i64 a1_3, .bool a1_4, .int .i64 a1_5, .int .i64 a1_6] 38 (0, 0))) ∧ Aside0 (Below w.heap.size w wc))
        case first =>
          have H := HC22.out
          clear HC22
          by_cases c25 : a1_2 = 9
          · rw [if_pos c25] at H
            have c25b0 : (a1_2 == 9) = true := beq_iff_eq.mpr c25
            have c25b1 : (a1_2 != 9) = false := bne_eq_false_iff_eq.mpr c25
            clear c25
            (first | rw [c25b0] | (simp only [i64_w, i32_w]; rw [c25b0]) | skip)
            have H' := Aside0.mk H
            clear H
            have hnb26 := NB287_288.out
            have hnc26 := NB288_287.out
            have hcz27_0 : wc.cell? ⟨gb287, 0, none⟩ = some (.slice A0_0 l0_0.length c0_0) := (blk_cell BK287.out 0).trans rfl
            have hcz27_1 : wc.cell? ⟨gb287, 1, none⟩ = some (.slice A0_1 l0_1.length c0_1) := (blk_cell BK287.out 1).trans rfl
            have hfz27_0 := blk_frozen BK287.out 0
            have hfz27_1 := blk_frozen BK287.out 1
            go_wp2
            go_meet
            case rel => exact ⟨_, (wrap64 ((l0_0.length : Int) - 1)), (by first | rfl | (simp; done) | (simp [*]; done)), H', ⟨by have := HJ2.out; first | omega | exact Nat.le_refl _⟩, ⟨by (with_reducible repeat (first | refine blk_drewN ?_ _ | refine blk_drew ?_ | refine blk_alloc ?_ _)); exact BK287.out⟩, ⟨by (with_reducible repeat (first | refine blk_drewN ?_ _ | refine blk_drew ?_ | refine blk_alloc ?_ _)); exact BK288.out⟩, ⟨by repeat (first | (with_reducible first | exact HB.out | apply below_alloc | apply pw_below_drewN | apply below_drew1 | refine below_set ?_ GE287.out | refine below_set ?_ GE288.out) | exact HB.out)⟩⟩
          · rw [if_neg c25] at H
            have c25b0 : (a1_2 == 9) = false := beq_eq_false_iff_ne.mpr c25
            have c25b1 : (a1_2 != 9) = true := bne_iff_ne.mpr c25
            (first | rw [c25b0] | (simp only [i64_w, i32_w]; rw [c25b0]) | skip)
            have H' := Aside0.mk H
            clear H
            go_wp2
            go_meet
            case rel => exact ⟨_, (0), (by first | rfl | (simp; done) | (simp [*]; done)), H', ⟨by have := HJ2.out; first | omega | exact Nat.le_refl _⟩, ⟨by (with_reducible repeat (first | refine blk_drewN ?_ _ | refine blk_drew ?_ | refine blk_alloc ?_ _)); exact BK287.out⟩, ⟨by (with_reducible repeat (first | refine blk_drewN ?_ _ | refine blk_drew ?_ | refine blk_alloc ?_ _)); exact BK288.out⟩, ⟨by repeat (first | (with_reducible first | exact HB.out | apply below_alloc | apply pw_below_drewN | apply below_drew1 | refine below_set ?_ GE287.out | refine below_set ?_ GE288.out) | exact HB.out)⟩⟩
        case rest =>
          clear HC22
          try clear c1
          try clear c2
          try clear p2
          try clear c5
          try clear p6
          try clear c7
          try clear c8
          try clear c8b0
          try clear c9
          try clear c11
          try clear c11b0
          try clear c12
          try clear c14
          try clear c14b0
          try clear c15
          try clear c17
          try clear c19
          try clear c21
          try clear c23
          try clear c25
          try clear c25b0
          try clear c25b1
          try clear c26
          try clear hcz10_0
          try clear hcz10_1
          try clear hcz10_2
          try clear hcz10_3
          try clear hcz10_4
          try clear hcz10_5
          try clear hcz10_6
          try clear hcz13_0
          try clear hcz13_1
          try clear hcz13_2
          try clear hcz13_3
          try clear hcz13_4
          try clear hcz13_5
          try clear hcz13_6
          try clear hcz16_0
          try clear hcz16_1
          try clear hcz16_2
          try clear hcz16_3
          try clear hcz16_4
          try clear hcz16_5
          try clear hcz16_6
          try clear hcz18_0
          try clear hcz18_1
          try clear hcz18_2
          try clear hcz18_3
          try clear hcz18_4
          try clear hcz18_5
          try clear hcz18_6
          try clear hcz20_0
          try clear hcz20_1
          try clear hcz20_2
          try clear hcz20_3
          try clear hcz20_4
          try clear hcz20_5
          try clear hcz20_6
          try clear hcz24_0
          try clear hcz24_1
          try clear hcz24_2
          try clear hcz24_3
          try clear hcz24_4
          try clear hcz24_5
          try clear hcz24_6
          try clear hcz27_0
          try clear hcz27_1
          try clear hfz10_0
          try clear hfz10_1
          try clear hfz10_2
          try clear hfz10_3
          try clear hfz10_4
          try clear hfz10_5
          try clear hfz10_6
          try clear hfz13_0
          try clear hfz13_1
          try clear hfz13_2
          try clear hfz13_3
          try clear hfz13_4
          try clear hfz13_5
          try clear hfz13_6
          try clear hfz16_0
          try clear hfz16_1
          try clear hfz16_2
          try clear hfz16_3
          try clear hfz16_4
          try clear hfz16_5
          try clear hfz16_6
          try clear hfz18_0
          try clear hfz18_1
          try clear hfz18_2
          try clear hfz18_3
          try clear hfz18_4
          try clear hfz18_5
          try clear hfz18_6
          try clear hfz20_0
          try clear hfz20_1
          try clear hfz20_2
          try clear hfz20_3
          try clear hfz20_4
          try clear hfz20_5
          try clear hfz20_6
          try clear hfz24_0
          try clear hfz24_1
          try clear hfz24_2
          try clear hfz24_3
          try clear hfz24_4
          try clear hfz24_5
          try clear hfz24_6
          try clear hfz27_0
          try clear hfz27_1
          try clear p2
          obtain ⟨kq, x5_21, rfl, HA, HJ21, BK287, BK288, HB⟩ := hcut
          cases kq with
          | zero => exact absurd HA.out (by simp [truffleref08_fieldMay.j1])
          | succ kj21 =>
            have H := HA.out
            clear HA
            simp only [truffleref08_fieldMay.j1] at H
            have HC28 := Aside0.mk H
            clear H
            have hnb29 := NB288_287.out
            have hnc29 := NB287_288.out
            have hcz30_0 : wc.cell? ⟨gb288, 0, none⟩ = some (.int .i64 a1_0) := (blk_cell BK288.out 0).trans rfl
            have hcz30_1 : wc.cell? ⟨gb288, 1, none⟩ = some (.string a1_1) := (blk_cell BK288.out 1).trans rfl
            have hcz30_2 : wc.cell? ⟨gb288, 2, none⟩ = some (.int .i64 a1_2) := (blk_cell BK288.out 2).trans rfl
            have hcz30_3 : wc.cell? ⟨gb288, 3, none⟩ = some (.int .i64 a1_3) := (blk_cell BK288.out 3).trans rfl
            have hcz30_4 : wc.cell? ⟨gb288, 4, none⟩ = some (.bool a1_4) := (blk_cell BK288.out 4).trans rfl
            have hcz30_5 : wc.cell? ⟨gb288, 5, none⟩ = some (.int .i64 a1_5) := (blk_cell BK288.out 5).trans rfl
            have hcz30_6 : wc.cell? ⟨gb288, 6, none⟩ = some (.int .i64 a1_6) := (blk_cell BK288.out 6).trans rfl
            have hfz30_0 := blk_frozen BK288.out 0
            have hfz30_1 := blk_frozen BK288.out 1
            have hfz30_2 := blk_frozen BK288.out 2
            have hfz30_3 := blk_frozen BK288.out 3
            have hfz30_4 := blk_frozen BK288.out 4
            have hfz30_5 := blk_frozen BK288.out 5
            have hfz30_6 := blk_frozen BK288.out 6
            go_upto_if 39 with (fail)
            go_cut [5] (fun v5 wc => ∃ (kq : Nat) (x5_27 : Int), v5 = .int .i64 x5_27 ∧ Aside0 (truffleref08_fieldMay.j2 kq x5_27 a1_0 a1_1 a1_2 a1_3 a1_4 a1_5 a1_6 = some r) ∧ Aside0 (kq ≤ kj21) ∧ Aside0 (wc.heap[gb287]? = some (.cells #[(.slice A0_0 l0_0.length c0_0), (.slice A0_1 l0_1.length c0_1)] 25 (0, 0))) ∧ Aside0 (wc.heap[gb288]? = some (.cells #[.int .i64 a1_0, .string a1_1, .int .i64 a1_2, .int .i64 a1_3, .bool a1_4, .int .i64 a1_5, .int .i64 a1_6] 38 (0, 0))) ∧ Aside0 (Below w.heap.size w wc))
            case first =>
              have H := HC28.out
              clear HC28
              by_cases c31 : a1_2 = 6
              · rw [if_pos c31] at H
                have c31b0 : (a1_2 == 6) = true := beq_iff_eq.mpr c31
                have c31b1 : (a1_2 != 6) = false := bne_eq_false_iff_eq.mpr c31
                clear c31
                (first | rw [c31b0] | (simp only [i64_w, i32_w]; rw [c31b0]) | skip)
                have H' := Aside0.mk H
                clear H
                have hnb32 := NB287_288.out
                have hnc32 := NB288_287.out
                have hcz33_0 : wc.cell? ⟨gb287, 0, none⟩ = some (.slice A0_0 l0_0.length c0_0) := (blk_cell BK287.out 0).trans rfl
                have hcz33_1 : wc.cell? ⟨gb287, 1, none⟩ = some (.slice A0_1 l0_1.length c0_1) := (blk_cell BK287.out 1).trans rfl
                have hfz33_0 := blk_frozen BK287.out 0
                have hfz33_1 := blk_frozen BK287.out 1
                go_wp2
                go_meet
                case rel => exact ⟨_, (wrap64 ((l0_1.length : Int) - 1)), (by first | rfl | (simp; done) | (simp [*]; done)), H', ⟨by have := HJ2.out; have := HJ21.out; first | omega | exact Nat.le_refl _⟩, ⟨by (with_reducible repeat (first | refine blk_drewN ?_ _ | refine blk_drew ?_ | refine blk_alloc ?_ _)); exact BK287.out⟩, ⟨by (with_reducible repeat (first | refine blk_drewN ?_ _ | refine blk_drew ?_ | refine blk_alloc ?_ _)); exact BK288.out⟩, ⟨by repeat (first | (with_reducible first | exact HB.out | apply below_alloc | apply pw_below_drewN | apply below_drew1 | refine below_set ?_ GE287.out | refine below_set ?_ GE288.out) | exact HB.out)⟩⟩
              · rw [if_neg c31] at H
                have c31b0 : (a1_2 == 6) = false := beq_eq_false_iff_ne.mpr c31
                have c31b1 : (a1_2 != 6) = true := bne_iff_ne.mpr c31
                (first | rw [c31b0] | (simp only [i64_w, i32_w]; rw [c31b0]) | skip)
                have H' := Aside0.mk H
                clear H
                go_wp2
                go_meet
                case rel => exact ⟨_, (x5_21), (by first | rfl | (simp; done) | (simp [*]; done)), H', ⟨by have := HJ2.out; have := HJ21.out; first | omega | exact Nat.le_refl _⟩, ⟨by (with_reducible repeat (first | refine blk_drewN ?_ _ | refine blk_drew ?_ | refine blk_alloc ?_ _)); exact BK287.out⟩, ⟨by (with_reducible repeat (first | refine blk_drewN ?_ _ | refine blk_drew ?_ | refine blk_alloc ?_ _)); exact BK288.out⟩, ⟨by repeat (first | (with_reducible first | exact HB.out | apply below_alloc | apply pw_below_drewN | apply below_drew1 | refine below_set ?_ GE287.out | refine below_set ?_ GE288.out) | exact HB.out)⟩⟩
            case rest =>
              clear HC28
              try clear c1
              try clear c2
              try clear p2
              try clear c3
              try clear c5
              try clear p6
              try clear c7
              try clear c8
              try clear c8b0
              try clear c9
              try clear c11
              try clear c11b0
              try clear c12
              try clear c14
              try clear c14b0
              try clear c15
              try clear c17
              try clear c19
              try clear c21
              try clear c23
              try clear c25
              try clear c25b0
              try clear c25b1
              try clear c26
              try clear c29
              try clear c31
              try clear c31b0
              try clear c31b1
              try clear c32
              try clear hcz10_0
              try clear hcz10_1
              try clear hcz10_2
              try clear hcz10_3
              try clear hcz10_4
              try clear hcz10_5
              try clear hcz10_6
              try clear hcz13_0
              try clear hcz13_1
              try clear hcz13_2
              try clear hcz13_3
              try clear hcz13_4
              try clear hcz13_5
              try clear hcz13_6
              try clear hcz16_0
              try clear hcz16_1
              try clear hcz16_2
              try clear hcz16_3
              try clear hcz16_4
              try clear hcz16_5
              try clear hcz16_6
              try clear hcz18_0
              try clear hcz18_1
              try clear hcz18_2
              try clear hcz18_3
              try clear hcz18_4
              try clear hcz18_5
              try clear hcz18_6
              try clear hcz20_0
              try clear hcz20_1
              try clear hcz20_2
              try clear hcz20_3
              try clear hcz20_4
              try clear hcz20_5
              try clear hcz20_6
              try clear hcz24_0
              try clear hcz24_1
              try clear hcz24_2
              try clear hcz24_3
              try clear hcz24_4
              try clear hcz24_5
              try clear hcz24_6
              try clear hcz27_0
              try clear hcz27_1
              try clear hcz30_0
              try clear hcz30_1
              try clear hcz30_2
              try clear hcz30_3
              try clear hcz30_4
              try clear hcz30_5
              try clear hcz30_6
              try clear hcz33_0
              try clear hcz33_1
              try clear hfz10_0
              try clear hfz10_1
              try clear hfz10_2
              try clear hfz10_3
              try clear hfz10_4
              try clear hfz10_5
              try clear hfz10_6
              try clear hfz13_0
              try clear hfz13_1
              try clear hfz13_2
              try clear hfz13_3
              try clear hfz13_4
              try clear hfz13_5
              try clear hfz13_6
              try clear hfz16_0
              try clear hfz16_1
              try clear hfz16_2
              try clear hfz16_3
              try clear hfz16_4
              try clear hfz16_5
              try clear hfz16_6
              try clear hfz18_0
              try clear hfz18_1
              try clear hfz18_2
              try clear hfz18_3
              try clear hfz18_4
              try clear hfz18_5
              try clear hfz18_6
              try clear hfz20_0
              try clear hfz20_1
              try clear hfz20_2
              try clear hfz20_3
              try clear hfz20_4
              try clear hfz20_5
              try clear hfz20_6
              try clear hfz24_0
              try clear hfz24_1
              try clear hfz24_2
              try clear hfz24_3
              try clear hfz24_4
              try clear hfz24_5
              try clear hfz24_6
              try clear hfz27_0
              try clear hfz27_1
              try clear hfz30_0
              try clear hfz30_1
              try clear hfz30_2
              try clear hfz30_3
              try clear hfz30_4
              try clear hfz30_5
              try clear hfz30_6
              try clear hfz33_0
              try clear hfz33_1
              try clear p2
              try clear p6
              obtain ⟨kq, x5_27, rfl, HA, HJ27, BK287, BK288, HB⟩ := hcut
              cases kq with
              | zero => exact absurd HA.out (by simp [truffleref08_fieldMay.j2])
              | succ kj27 =>
                have H := HA.out
                clear HA
                simp only [truffleref08_fieldMay.j2] at H
                have HC34 := Aside0.mk H
                clear H
                go_upto_region 8 with (fail)
                go_cut [52] (fun v52 wc => ∃ (kq : Nat) (x52_33 : Bool), v52 = .bool x52_33 ∧ Aside0 (truffleref08_fieldMay.j3 kq x52_33 a1_0 a1_1 a1_2 a1_3 a1_4 a1_5 a1_6 = some r) ∧ Aside0 (kq ≤ kj27) ∧ Aside0 (wc.heap[gb287]? = some (.cells #[(.slice A0_0 l0_0.length c0_0), (.slice A0_1 l0_1.length c0_1)] 25 (0, 0))) ∧ Aside0 (wc.heap[gb288]? = some (.cells #[.int .i64 a1_0, .string a1_1, .int .i64 a1_2, .int .i64 a1_3, .bool a1_4, .int .i64 a1_5, .int .i64 a1_6] 38 (0, 0))) ∧ Aside0 (Below w.heap.size w wc))
                case first =>
                  have H := HC34.out
                  clear HC34
                  by_cases c35 : a1_3 < 0
                  · rw [if_pos c35] at H
                    have c35b0 : decide (a1_3 < 0) = true := decide_eq_true c35
                    clear c35
                    (first | rw [c35b0] | (simp only [i64_w, i32_w]; rw [c35b0]) | skip)
                    have H' := Aside0.mk H
                    clear H
                    have hnb36 := NB288_287.out
                    have hnc36 := NB287_288.out
                    have hcz37_0 : wc.cell? ⟨gb288, 0, none⟩ = some (.int .i64 a1_0) := (blk_cell BK288.out 0).trans rfl
                    have hcz37_1 : wc.cell? ⟨gb288, 1, none⟩ = some (.string a1_1) := (blk_cell BK288.out 1).trans rfl
                    have hcz37_2 : wc.cell? ⟨gb288, 2, none⟩ = some (.int .i64 a1_2) := (blk_cell BK288.out 2).trans rfl
                    have hcz37_3 : wc.cell? ⟨gb288, 3, none⟩ = some (.int .i64 a1_3) := (blk_cell BK288.out 3).trans rfl
                    have hcz37_4 : wc.cell? ⟨gb288, 4, none⟩ = some (.bool a1_4) := (blk_cell BK288.out 4).trans rfl
                    have hcz37_5 : wc.cell? ⟨gb288, 5, none⟩ = some (.int .i64 a1_5) := (blk_cell BK288.out 5).trans rfl
                    have hcz37_6 : wc.cell? ⟨gb288, 6, none⟩ = some (.int .i64 a1_6) := (blk_cell BK288.out 6).trans rfl
                    have hfz37_0 := blk_frozen BK288.out 0
                    have hfz37_1 := blk_frozen BK288.out 1
                    have hfz37_2 := blk_frozen BK288.out 2
                    have hfz37_3 := blk_frozen BK288.out 3
                    have hfz37_4 := blk_frozen BK288.out 4
                    have hfz37_5 := blk_frozen BK288.out 5
                    have hfz37_6 := blk_frozen BK288.out 6
                    go_wp2
                    go_meet
                    case rel => exact ⟨_, (true), (by first | rfl | (simp; done) | (simp [*]; done)), H', ⟨by have := HJ2.out; have := HJ21.out; have := HJ27.out; first | omega | exact Nat.le_refl _⟩, ⟨by (with_reducible repeat (first | refine blk_drewN ?_ _ | refine blk_drew ?_ | refine blk_alloc ?_ _)); exact BK287.out⟩, ⟨by (with_reducible repeat (first | refine blk_drewN ?_ _ | refine blk_drew ?_ | refine blk_alloc ?_ _)); exact BK288.out⟩, ⟨by repeat (first | (with_reducible first | exact HB.out | apply below_alloc | apply pw_below_drewN | apply below_drew1 | refine below_set ?_ GE287.out | refine below_set ?_ GE288.out) | exact HB.out)⟩⟩
                  · rw [if_neg c35] at H
                    have c35b0 : decide (a1_3 < 0) = false := decide_eq_false c35
                    clear c35
                    (first | rw [c35b0] | (simp only [i64_w, i32_w]; rw [c35b0]) | skip)
                    have H' := Aside0.mk H
                    clear H
                    have hnb38 := NB288_287.out
                    have hnc38 := NB287_288.out
                    have hcz39_0 : wc.cell? ⟨gb288, 0, none⟩ = some (.int .i64 a1_0) := (blk_cell BK288.out 0).trans rfl
                    have hcz39_1 : wc.cell? ⟨gb288, 1, none⟩ = some (.string a1_1) := (blk_cell BK288.out 1).trans rfl
                    have hcz39_2 : wc.cell? ⟨gb288, 2, none⟩ = some (.int .i64 a1_2) := (blk_cell BK288.out 2).trans rfl
                    have hcz39_3 : wc.cell? ⟨gb288, 3, none⟩ = some (.int .i64 a1_3) := (blk_cell BK288.out 3).trans rfl
                    have hcz39_4 : wc.cell? ⟨gb288, 4, none⟩ = some (.bool a1_4) := (blk_cell BK288.out 4).trans rfl
                    have hcz39_5 : wc.cell? ⟨gb288, 5, none⟩ = some (.int .i64 a1_5) := (blk_cell BK288.out 5).trans rfl
                    have hcz39_6 : wc.cell? ⟨gb288, 6, none⟩ = some (.int .i64 a1_6) := (blk_cell BK288.out 6).trans rfl
                    have hfz39_0 := blk_frozen BK288.out 0
                    have hfz39_1 := blk_frozen BK288.out 1
                    have hfz39_2 := blk_frozen BK288.out 2
                    have hfz39_3 := blk_frozen BK288.out 3
                    have hfz39_4 := blk_frozen BK288.out 4
                    have hfz39_5 := blk_frozen BK288.out 5
                    have hfz39_6 := blk_frozen BK288.out 6
                    go_wp2
                    go_meet
                    case rel => exact ⟨_, (decide (a1_3 > x5_27)), (by first | rfl | (simp; done) | (simp [*]; done)), H', ⟨by have := HJ2.out; have := HJ21.out; have := HJ27.out; first | omega | exact Nat.le_refl _⟩, ⟨by (with_reducible repeat (first | refine blk_drewN ?_ _ | refine blk_drew ?_ | refine blk_alloc ?_ _)); exact BK287.out⟩, ⟨by (with_reducible repeat (first | refine blk_drewN ?_ _ | refine blk_drew ?_ | refine blk_alloc ?_ _)); exact BK288.out⟩, ⟨by repeat (first | (with_reducible first | exact HB.out | apply below_alloc | apply pw_below_drewN | apply below_drew1 | refine below_set ?_ GE287.out | refine below_set ?_ GE288.out) | exact HB.out)⟩⟩
                case rest =>
                  clear HC34
                  try clear c1
                  try clear c2
                  try clear p2
                  try clear c3
                  try clear c5
                  try clear p6
                  try clear c7
                  try clear c8
                  try clear c8b0
                  try clear c9
                  try clear c11
                  try clear c11b0
                  try clear c12
                  try clear c14
                  try clear c14b0
                  try clear c15
                  try clear c17
                  try clear c19
                  try clear c21
                  try clear c23
                  try clear c25
                  try clear c25b0
                  try clear c25b1
                  try clear c26
                  try clear c29
                  try clear c31
                  try clear c31b0
                  try clear c31b1
                  try clear c32
                  try clear c35
                  try clear c35b0
                  try clear c36
                  try clear c38
                  try clear hcz10_0
                  try clear hcz10_1
                  try clear hcz10_2
                  try clear hcz10_3
                  try clear hcz10_4
                  try clear hcz10_5
                  try clear hcz10_6
                  try clear hcz13_0
                  try clear hcz13_1
                  try clear hcz13_2
                  try clear hcz13_3
                  try clear hcz13_4
                  try clear hcz13_5
                  try clear hcz13_6
                  try clear hcz16_0
                  try clear hcz16_1
                  try clear hcz16_2
                  try clear hcz16_3
                  try clear hcz16_4
                  try clear hcz16_5
                  try clear hcz16_6
                  try clear hcz18_0
                  try clear hcz18_1
                  try clear hcz18_2
                  try clear hcz18_3
                  try clear hcz18_4
                  try clear hcz18_5
                  try clear hcz18_6
                  try clear hcz20_0
                  try clear hcz20_1
                  try clear hcz20_2
                  try clear hcz20_3
                  try clear hcz20_4
                  try clear hcz20_5
                  try clear hcz20_6
                  try clear hcz24_0
                  try clear hcz24_1
                  try clear hcz24_2
                  try clear hcz24_3
                  try clear hcz24_4
                  try clear hcz24_5
                  try clear hcz24_6
                  try clear hcz27_0
                  try clear hcz27_1
                  try clear hcz30_0
                  try clear hcz30_1
                  try clear hcz30_2
                  try clear hcz30_3
                  try clear hcz30_4
                  try clear hcz30_5
                  try clear hcz30_6
                  try clear hcz33_0
                  try clear hcz33_1
                  try clear hcz37_0
                  try clear hcz37_1
                  try clear hcz37_2
                  try clear hcz37_3
                  try clear hcz37_4
                  try clear hcz37_5
                  try clear hcz37_6
                  try clear hcz39_0
                  try clear hcz39_1
                  try clear hcz39_2
                  try clear hcz39_3
                  try clear hcz39_4
                  try clear hcz39_5
                  try clear hcz39_6
                  try clear hfz10_0
                  try clear hfz10_1
                  try clear hfz10_2
                  try clear hfz10_3
                  try clear hfz10_4
                  try clear hfz10_5
                  try clear hfz10_6
                  try clear hfz13_0
                  try clear hfz13_1
                  try clear hfz13_2
                  try clear hfz13_3
                  try clear hfz13_4
                  try clear hfz13_5
                  try clear hfz13_6
                  try clear hfz16_0
                  try clear hfz16_1
                  try clear hfz16_2
                  try clear hfz16_3
                  try clear hfz16_4
                  try clear hfz16_5
                  try clear hfz16_6
                  try clear hfz18_0
                  try clear hfz18_1
                  try clear hfz18_2
                  try clear hfz18_3
                  try clear hfz18_4
                  try clear hfz18_5
                  try clear hfz18_6
                  try clear hfz20_0
                  try clear hfz20_1
                  try clear hfz20_2
                  try clear hfz20_3
                  try clear hfz20_4
                  try clear hfz20_5
                  try clear hfz20_6
                  try clear hfz24_0
                  try clear hfz24_1
                  try clear hfz24_2
                  try clear hfz24_3
                  try clear hfz24_4
                  try clear hfz24_5
                  try clear hfz24_6
                  try clear hfz27_0
                  try clear hfz27_1
                  try clear hfz30_0
                  try clear hfz30_1
                  try clear hfz30_2
                  try clear hfz30_3
                  try clear hfz30_4
                  try clear hfz30_5
                  try clear hfz30_6
                  try clear hfz33_0
                  try clear hfz33_1
                  try clear hfz37_0
                  try clear hfz37_1
                  try clear hfz37_2
                  try clear hfz37_3
                  try clear hfz37_4
                  try clear hfz37_5
                  try clear hfz37_6
                  try clear hfz39_0
                  try clear hfz39_1
                  try clear hfz39_2
                  try clear hfz39_3
                  try clear hfz39_4
                  try clear hfz39_5
                  try clear hfz39_6
                  try clear p2
                  try clear p6
                  obtain ⟨kq, x52_33, rfl, HA, HJ33, BK287, BK288, HB⟩ := hcut
                  cases kq with
                  | zero => exact absurd HA.out (by simp [truffleref08_fieldMay.j3])
                  | succ kj33 =>
                    have H := HA.out
                    clear HA
                    simp only [truffleref08_fieldMay.j3] at H
                    by_cases c40 : x52_33 = true
                    · subst c40
                      have H1 : (some false) = some r := by rw [if_pos rfl] at H; exact H
                      clear H
                      have H := H1
                      clear H1
                      obtain rfl := Option.some.inj H
                      go_wp2
                      go_ret
                      exact ⟨by first | rfl | (simp [errW_none, errW_some] <;> rfl) | (simp [*, errW_none, errW_some] <;> rfl), by repeat (first | (with_reducible first | exact HB.out | apply below_alloc | apply pw_below_drewN | apply below_drew1 | refine below_set ?_ GE287.out | refine below_set ?_ GE288.out) | exact HB.out)⟩
                    · replace c40 := Bool.eq_false_iff.mpr c40
                      subst c40
                      have H1 : (if a1_5 = (-1) then (if a1_6 = 0 then (some true) else (if a1_4 = true then (some false) else (some (a1_5 == (-1))))) else ((truffleref08_keyed.f a1_5).bind fun t290 => (if t290 = true then (if a1_4 = true then (some false) else (if a1_6 = 0 then (some true) else (some (a1_5 == (-1))))) else (some false)))) = some r := by rw [if_neg (show ¬ (false = true) by decide)] at H; exact H
                      clear H
                      have H := H1
                      clear H1
                      by_cases c41 : a1_5 = (-1)
                      · rw [if_pos c41] at H
                        have c41b0 : (a1_5 == (-1)) = true := beq_iff_eq.mpr c41
                        have c41b1 : (a1_5 != (-1)) = false := bne_eq_false_iff_eq.mpr c41
                        clear c41
                        by_cases c42 : a1_6 = 0
                        · rw [if_pos c42] at H
                          have c42b0 : (a1_6 == 0) = true := beq_iff_eq.mpr c42
                          have c42b1 : (a1_6 != 0) = false := bne_eq_false_iff_eq.mpr c42
                          clear c42
                          obtain rfl := Option.some.inj H
                          have hnb43 := NB288_287.out
                          have hnc43 := NB287_288.out
                          have hcz44_0 : wc.cell? ⟨gb288, 0, none⟩ = some (.int .i64 a1_0) := (blk_cell BK288.out 0).trans rfl
                          have hcz44_1 : wc.cell? ⟨gb288, 1, none⟩ = some (.string a1_1) := (blk_cell BK288.out 1).trans rfl
                          have hcz44_2 : wc.cell? ⟨gb288, 2, none⟩ = some (.int .i64 a1_2) := (blk_cell BK288.out 2).trans rfl
                          have hcz44_3 : wc.cell? ⟨gb288, 3, none⟩ = some (.int .i64 a1_3) := (blk_cell BK288.out 3).trans rfl
                          have hcz44_4 : wc.cell? ⟨gb288, 4, none⟩ = some (.bool a1_4) := (blk_cell BK288.out 4).trans rfl
                          have hcz44_5 : wc.cell? ⟨gb288, 5, none⟩ = some (.int .i64 a1_5) := (blk_cell BK288.out 5).trans rfl
                          have hcz44_6 : wc.cell? ⟨gb288, 6, none⟩ = some (.int .i64 a1_6) := (blk_cell BK288.out 6).trans rfl
                          have hfz44_0 := blk_frozen BK288.out 0
                          have hfz44_1 := blk_frozen BK288.out 1
                          have hfz44_2 := blk_frozen BK288.out 2
                          have hfz44_3 := blk_frozen BK288.out 3
                          have hfz44_4 := blk_frozen BK288.out 4
                          have hfz44_5 := blk_frozen BK288.out 5
                          have hfz44_6 := blk_frozen BK288.out 6
                          go_wp2
                          go_ret
                          exact ⟨by first | rfl | (simp [errW_none, errW_some] <;> rfl) | (simp [*, errW_none, errW_some] <;> rfl), by repeat (first | (with_reducible first | exact HB.out | apply below_alloc | apply pw_below_drewN | apply below_drew1 | refine below_set ?_ GE287.out | refine below_set ?_ GE288.out) | exact HB.out)⟩
                        · rw [if_neg c42] at H
                          have c42b0 : (a1_6 == 0) = false := beq_eq_false_iff_ne.mpr c42
                          have c42b1 : (a1_6 != 0) = true := bne_iff_ne.mpr c42
                          by_cases c45 : a1_4 = true
                          · subst c45
                            have H1 : (some false) = some r := by rw [if_pos rfl] at H; exact H
                            clear H
                            have H := H1
                            clear H1
                            obtain rfl := Option.some.inj H
                            have hnb46 := NB288_287.out
                            have hnc46 := NB287_288.out
                            have hcz47_0 : wc.cell? ⟨gb288, 0, none⟩ = some (.int .i64 a1_0) := (blk_cell BK288.out 0).trans rfl
                            have hcz47_1 : wc.cell? ⟨gb288, 1, none⟩ = some (.string a1_1) := (blk_cell BK288.out 1).trans rfl
                            have hcz47_2 : wc.cell? ⟨gb288, 2, none⟩ = some (.int .i64 a1_2) := (blk_cell BK288.out 2).trans rfl
                            have hcz47_3 : wc.cell? ⟨gb288, 3, none⟩ = some (.int .i64 a1_3) := (blk_cell BK288.out 3).trans rfl
                            have hcz47_4 : wc.cell? ⟨gb288, 4, none⟩ = some (.bool true) := (blk_cell BK288.out 4).trans rfl
                            have hcz47_5 : wc.cell? ⟨gb288, 5, none⟩ = some (.int .i64 a1_5) := (blk_cell BK288.out 5).trans rfl
                            have hcz47_6 : wc.cell? ⟨gb288, 6, none⟩ = some (.int .i64 a1_6) := (blk_cell BK288.out 6).trans rfl
                            have hfz47_0 := blk_frozen BK288.out 0
                            have hfz47_1 := blk_frozen BK288.out 1
                            have hfz47_2 := blk_frozen BK288.out 2
                            have hfz47_3 := blk_frozen BK288.out 3
                            have hfz47_4 := blk_frozen BK288.out 4
                            have hfz47_5 := blk_frozen BK288.out 5
                            have hfz47_6 := blk_frozen BK288.out 6
                            go_wp2
                            go_ret
                            exact ⟨by first | rfl | (simp [errW_none, errW_some] <;> rfl) | (simp [*, errW_none, errW_some] <;> rfl), by repeat (first | (with_reducible first | exact HB.out | apply below_alloc | apply pw_below_drewN | apply below_drew1 | refine below_set ?_ GE287.out | refine below_set ?_ GE288.out) | exact HB.out)⟩
                          · replace c45 := Bool.eq_false_iff.mpr c45
                            subst c45
                            have H1 : (some (a1_5 == (-1))) = some r := by rw [if_neg (show ¬ (false = true) by decide)] at H; exact H
                            clear H
                            have H := H1
                            clear H1
                            obtain rfl := Option.some.inj H
                            have hnb48 := NB288_287.out
                            have hnc48 := NB287_288.out
                            have hcz49_0 : wc.cell? ⟨gb288, 0, none⟩ = some (.int .i64 a1_0) := (blk_cell BK288.out 0).trans rfl
                            have hcz49_1 : wc.cell? ⟨gb288, 1, none⟩ = some (.string a1_1) := (blk_cell BK288.out 1).trans rfl
                            have hcz49_2 : wc.cell? ⟨gb288, 2, none⟩ = some (.int .i64 a1_2) := (blk_cell BK288.out 2).trans rfl
                            have hcz49_3 : wc.cell? ⟨gb288, 3, none⟩ = some (.int .i64 a1_3) := (blk_cell BK288.out 3).trans rfl
                            have hcz49_4 : wc.cell? ⟨gb288, 4, none⟩ = some (.bool false) := (blk_cell BK288.out 4).trans rfl
                            have hcz49_5 : wc.cell? ⟨gb288, 5, none⟩ = some (.int .i64 a1_5) := (blk_cell BK288.out 5).trans rfl
                            have hcz49_6 : wc.cell? ⟨gb288, 6, none⟩ = some (.int .i64 a1_6) := (blk_cell BK288.out 6).trans rfl
                            have hfz49_0 := blk_frozen BK288.out 0
                            have hfz49_1 := blk_frozen BK288.out 1
                            have hfz49_2 := blk_frozen BK288.out 2
                            have hfz49_3 := blk_frozen BK288.out 3
                            have hfz49_4 := blk_frozen BK288.out 4
                            have hfz49_5 := blk_frozen BK288.out 5
                            have hfz49_6 := blk_frozen BK288.out 6
                            go_wp2
                            go_ret
                            exact ⟨by first | rfl | (simp [errW_none, errW_some] <;> rfl) | (simp [*, errW_none, errW_some] <;> rfl), by repeat (first | (with_reducible first | exact HB.out | apply below_alloc | apply pw_below_drewN | apply below_drew1 | refine below_set ?_ GE287.out | refine below_set ?_ GE288.out) | exact HB.out)⟩
                      · rw [if_neg c41] at H
                        have c41b0 : (a1_5 == (-1)) = false := beq_eq_false_iff_ne.mpr c41
                        have c41b1 : (a1_5 != (-1)) = true := bne_iff_ne.mpr c41
                        replace H := Option.bind_eq_some_iff.mp H
                        obtain ⟨t290, A500, H⟩ := H
                        replace H : (if t290 = true then (if a1_4 = true then (some false) else (if a1_6 = 0 then (some true) else (some (a1_5 == (-1))))) else (some false)) = some r := H
                        have A50 := Aside0.mk A500
                        clear A500
                        by_cases c51 : t290 = true
                        · subst c51
                          have H1 : (if a1_4 = true then (some false) else (if a1_6 = 0 then (some true) else (some (a1_5 == (-1))))) = some r := by rw [if_pos rfl] at H; exact H
                          clear H
                          have H := H1
                          clear H1
                          by_cases c52 : a1_4 = true
                          · subst c52
                            have H1 : (some false) = some r := by rw [if_pos rfl] at H; exact H
                            clear H
                            have H := H1
                            clear H1
                            obtain rfl := Option.some.inj H
                            have hnb53 := NB288_287.out
                            have hnc53 := NB287_288.out
                            have hcz54_0 : wc.cell? ⟨gb288, 0, none⟩ = some (.int .i64 a1_0) := (blk_cell BK288.out 0).trans rfl
                            have hcz54_1 : wc.cell? ⟨gb288, 1, none⟩ = some (.string a1_1) := (blk_cell BK288.out 1).trans rfl
                            have hcz54_2 : wc.cell? ⟨gb288, 2, none⟩ = some (.int .i64 a1_2) := (blk_cell BK288.out 2).trans rfl
                            have hcz54_3 : wc.cell? ⟨gb288, 3, none⟩ = some (.int .i64 a1_3) := (blk_cell BK288.out 3).trans rfl
                            have hcz54_4 : wc.cell? ⟨gb288, 4, none⟩ = some (.bool true) := (blk_cell BK288.out 4).trans rfl
                            have hcz54_5 : wc.cell? ⟨gb288, 5, none⟩ = some (.int .i64 a1_5) := (blk_cell BK288.out 5).trans rfl
                            have hcz54_6 : wc.cell? ⟨gb288, 6, none⟩ = some (.int .i64 a1_6) := (blk_cell BK288.out 6).trans rfl
                            have hfz54_0 := blk_frozen BK288.out 0
                            have hfz54_1 := blk_frozen BK288.out 1
                            have hfz54_2 := blk_frozen BK288.out 2
                            have hfz54_3 := blk_frozen BK288.out 3
                            have hfz54_4 := blk_frozen BK288.out 4
                            have hfz54_5 := blk_frozen BK288.out 5
                            have hfz54_6 := blk_frozen BK288.out 6
                            go_wp2_with (first | (go_at_call 52; (with_reducible refine (truffleref08_keyed.calls a1_5 true _ A50.out).mono ?_); rintro e w' ⟨rfl, ⟨nd, rfl⟩⟩))
                            go_ret
                            exact ⟨by first | rfl | (simp [errW_none, errW_some] <;> rfl) | (simp [*, errW_none, errW_some] <;> rfl), by repeat (first | (with_reducible first | exact HB.out | apply below_alloc | apply pw_below_drewN | apply below_drew1 | refine below_set ?_ GE287.out | refine below_set ?_ GE288.out) | exact HB.out)⟩
                          · replace c52 := Bool.eq_false_iff.mpr c52
                            subst c52
                            have H1 : (if a1_6 = 0 then (some true) else (some (a1_5 == (-1)))) = some r := by rw [if_neg (show ¬ (false = true) by decide)] at H; exact H
                            clear H
                            have H := H1
                            clear H1
                            by_cases c55 : a1_6 = 0
                            · rw [if_pos c55] at H
                              have c55b0 : (a1_6 == 0) = true := beq_iff_eq.mpr c55
                              have c55b1 : (a1_6 != 0) = false := bne_eq_false_iff_eq.mpr c55
                              clear c55
                              obtain rfl := Option.some.inj H
                              have hnb56 := NB288_287.out
                              have hnc56 := NB287_288.out
                              have hcz57_0 : wc.cell? ⟨gb288, 0, none⟩ = some (.int .i64 a1_0) := (blk_cell BK288.out 0).trans rfl
                              have hcz57_1 : wc.cell? ⟨gb288, 1, none⟩ = some (.string a1_1) := (blk_cell BK288.out 1).trans rfl
                              have hcz57_2 : wc.cell? ⟨gb288, 2, none⟩ = some (.int .i64 a1_2) := (blk_cell BK288.out 2).trans rfl
                              have hcz57_3 : wc.cell? ⟨gb288, 3, none⟩ = some (.int .i64 a1_3) := (blk_cell BK288.out 3).trans rfl
                              have hcz57_4 : wc.cell? ⟨gb288, 4, none⟩ = some (.bool false) := (blk_cell BK288.out 4).trans rfl
                              have hcz57_5 : wc.cell? ⟨gb288, 5, none⟩ = some (.int .i64 a1_5) := (blk_cell BK288.out 5).trans rfl
                              have hcz57_6 : wc.cell? ⟨gb288, 6, none⟩ = some (.int .i64 a1_6) := (blk_cell BK288.out 6).trans rfl
                              have hfz57_0 := blk_frozen BK288.out 0
                              have hfz57_1 := blk_frozen BK288.out 1
                              have hfz57_2 := blk_frozen BK288.out 2
                              have hfz57_3 := blk_frozen BK288.out 3
                              have hfz57_4 := blk_frozen BK288.out 4
                              have hfz57_5 := blk_frozen BK288.out 5
                              have hfz57_6 := blk_frozen BK288.out 6
                              go_wp2_with (first | (go_at_call 52; (with_reducible refine (truffleref08_keyed.calls a1_5 true _ A50.out).mono ?_); rintro e w' ⟨rfl, ⟨nd, rfl⟩⟩))
                              go_ret
                              exact ⟨by first | rfl | (simp [errW_none, errW_some] <;> rfl) | (simp [*, errW_none, errW_some] <;> rfl), by repeat (first | (with_reducible first | exact HB.out | apply below_alloc | apply pw_below_drewN | apply below_drew1 | refine below_set ?_ GE287.out | refine below_set ?_ GE288.out) | exact HB.out)⟩
                            · rw [if_neg c55] at H
                              have c55b0 : (a1_6 == 0) = false := beq_eq_false_iff_ne.mpr c55
                              have c55b1 : (a1_6 != 0) = true := bne_iff_ne.mpr c55
                              obtain rfl := Option.some.inj H
                              have hnb58 := NB288_287.out
                              have hnc58 := NB287_288.out
                              have hcz59_0 : wc.cell? ⟨gb288, 0, none⟩ = some (.int .i64 a1_0) := (blk_cell BK288.out 0).trans rfl
                              have hcz59_1 : wc.cell? ⟨gb288, 1, none⟩ = some (.string a1_1) := (blk_cell BK288.out 1).trans rfl
                              have hcz59_2 : wc.cell? ⟨gb288, 2, none⟩ = some (.int .i64 a1_2) := (blk_cell BK288.out 2).trans rfl
                              have hcz59_3 : wc.cell? ⟨gb288, 3, none⟩ = some (.int .i64 a1_3) := (blk_cell BK288.out 3).trans rfl
                              have hcz59_4 : wc.cell? ⟨gb288, 4, none⟩ = some (.bool false) := (blk_cell BK288.out 4).trans rfl
                              have hcz59_5 : wc.cell? ⟨gb288, 5, none⟩ = some (.int .i64 a1_5) := (blk_cell BK288.out 5).trans rfl
                              have hcz59_6 : wc.cell? ⟨gb288, 6, none⟩ = some (.int .i64 a1_6) := (blk_cell BK288.out 6).trans rfl
                              have hfz59_0 := blk_frozen BK288.out 0
                              have hfz59_1 := blk_frozen BK288.out 1
                              have hfz59_2 := blk_frozen BK288.out 2
                              have hfz59_3 := blk_frozen BK288.out 3
                              have hfz59_4 := blk_frozen BK288.out 4
                              have hfz59_5 := blk_frozen BK288.out 5
                              have hfz59_6 := blk_frozen BK288.out 6
                              go_wp2_with (first | (go_at_call 52; (with_reducible refine (truffleref08_keyed.calls a1_5 true _ A50.out).mono ?_); rintro e w' ⟨rfl, ⟨nd, rfl⟩⟩))
                              go_ret
                              exact ⟨by first | rfl | (simp [errW_none, errW_some] <;> rfl) | (simp [*, errW_none, errW_some] <;> rfl), by repeat (first | (with_reducible first | exact HB.out | apply below_alloc | apply pw_below_drewN | apply below_drew1 | refine below_set ?_ GE287.out | refine below_set ?_ GE288.out) | exact HB.out)⟩
                        · replace c51 := Bool.eq_false_iff.mpr c51
                          subst c51
                          have H1 : (some false) = some r := by rw [if_neg (show ¬ (false = true) by decide)] at H; exact H
                          clear H
                          have H := H1
                          clear H1
                          obtain rfl := Option.some.inj H
                          have hnb60 := NB288_287.out
                          have hnc60 := NB287_288.out
                          have hcz61_0 : wc.cell? ⟨gb288, 0, none⟩ = some (.int .i64 a1_0) := (blk_cell BK288.out 0).trans rfl
                          have hcz61_1 : wc.cell? ⟨gb288, 1, none⟩ = some (.string a1_1) := (blk_cell BK288.out 1).trans rfl
                          have hcz61_2 : wc.cell? ⟨gb288, 2, none⟩ = some (.int .i64 a1_2) := (blk_cell BK288.out 2).trans rfl
                          have hcz61_3 : wc.cell? ⟨gb288, 3, none⟩ = some (.int .i64 a1_3) := (blk_cell BK288.out 3).trans rfl
                          have hcz61_4 : wc.cell? ⟨gb288, 4, none⟩ = some (.bool a1_4) := (blk_cell BK288.out 4).trans rfl
                          have hcz61_5 : wc.cell? ⟨gb288, 5, none⟩ = some (.int .i64 a1_5) := (blk_cell BK288.out 5).trans rfl
                          have hcz61_6 : wc.cell? ⟨gb288, 6, none⟩ = some (.int .i64 a1_6) := (blk_cell BK288.out 6).trans rfl
                          have hfz61_0 := blk_frozen BK288.out 0
                          have hfz61_1 := blk_frozen BK288.out 1
                          have hfz61_2 := blk_frozen BK288.out 2
                          have hfz61_3 := blk_frozen BK288.out 3
                          have hfz61_4 := blk_frozen BK288.out 4
                          have hfz61_5 := blk_frozen BK288.out 5
                          have hfz61_6 := blk_frozen BK288.out 6
                          go_wp2_with (first | (go_at_call 52; (with_reducible refine (truffleref08_keyed.calls a1_5 false _ A50.out).mono ?_); rintro e w' ⟨rfl, ⟨nd, rfl⟩⟩))
                          go_ret
                          exact ⟨by first | rfl | (simp [errW_none, errW_some] <;> rfl) | (simp [*, errW_none, errW_some] <;> rfl), by repeat (first | (with_reducible first | exact HB.out | apply below_alloc | apply pw_below_drewN | apply below_drew1 | refine below_set ?_ GE287.out | refine below_set ?_ GE288.out) | exact HB.out)⟩

end Go.Proofs.Ytlokcpfkaijchaa.PA
