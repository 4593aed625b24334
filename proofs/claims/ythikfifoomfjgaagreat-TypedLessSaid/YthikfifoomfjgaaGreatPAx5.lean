-- PRINTED by print.py (a twelfth state) out of the translation. Not trusted: Lean checks it.
import Derived.Test.YthikfifoomfjgaaGreatPAx0
namespace Go.Proofs.YthikfifoomfjgaaGreat.PA
open Go.RowKit Go.Proofs.YthikfifoomfjgaaGreatW.PrintWords Go.Proofs.YthikfifoomfjgaaGreatW.PrintLast
set_option linter.unusedVariables false
set_option linter.unusedSimpArgs false

/-! ### truffleref08_By: function 22 -/
mutual
def truffleref08_By.j0 : Nat → Int → Int → Bool → List (S58) → List (S79) → Option (Int × ByteArray × Int × Int × Bool × Int × Int × Bool)
  | 0, _, _, _, _, _ => none
  | k + 1, x1, x2, x17, x188000, x188001 => if x17 = true then (some (0, (⟨#[]⟩ : ByteArray), 0, 0, false, 0, 0, false)) else (truffleref08_By.l0 k x1 x2 0 x188000 x188001)
def truffleref08_By.l0 : Nat → Int → Int → Int → List (S58) → List (S79) → Option (Int × ByteArray × Int × Int × Bool × Int × Int × Bool)
  | 0, _, _, _, _, _ => none
  | k + 1, x1, x2, x8, x188000, x188001 => if 0 ≤ x1 then (if x1 < (x188000.length : Int) then (if x8 < (((rd_T58 x188000 x1).f1).length : Int) then (if 0 ≤ x8 then (if ((rd_T47 ((rd_T58 x188000 x1).f1) x8).f0) = x2 then (some ((rd_T47 ((rd_T58 x188000 x1).f1) x8).f0, (rd_T47 ((rd_T58 x188000 x1).f1) x8).f1, (rd_T47 ((rd_T58 x188000 x1).f1) x8).f2, (rd_T47 ((rd_T58 x188000 x1).f1) x8).f3, (rd_T47 ((rd_T58 x188000 x1).f1) x8).f4, (rd_T47 ((rd_T58 x188000 x1).f1) x8).f5, (rd_T47 ((rd_T58 x188000 x1).f1) x8).f6, true)) else (truffleref08_By.l0 k x1 x2 (wrap64 (x8 + 1)) x188000 x188001)) else (none)) else (some (0, (⟨#[]⟩ : ByteArray), 0, 0, false, 0, 0, false))) else (none)) else (none)
end
def truffleref08_By.f (k : Nat) (l0_0 : List (S58)) (l0_1 : List (S79)) (a1 : Int) (a2 : Int) : Option (Int × ByteArray × Int × Int × Bool × Int × Int × Bool) := if a1 < 0 then (truffleref08_By.j0 k a1 a2 true l0_0 l0_1) else (truffleref08_By.j0 k a1 a2 (decide (a1 ≥ (l0_0.length : Int))) l0_0 l0_1)
theorem truffleref08_By.mono_l : ∀ k, (∀ y0 y1 y2 y3 y4, LeO (truffleref08_By.j0 k y0 y1 y2 y3 y4) (truffleref08_By.j0 (k + 1) y0 y1 y2 y3 y4)) ∧ (∀ y0 y1 y2 y3 y4, LeO (truffleref08_By.l0 k y0 y1 y2 y3 y4) (truffleref08_By.l0 (k + 1) y0 y1 y2 y3 y4))
  | 0 => ⟨fun _ _ _ _ _ r h => by simp [truffleref08_By.j0] at h, fun _ _ _ _ _ r h => by simp [truffleref08_By.l0] at h⟩
  | k + 1 => by
    obtain ⟨ih0, ih1⟩ := truffleref08_By.mono_l k
    refine ⟨?_, ?_⟩
    · intro y0 y1 y2 y3 y4
      unfold truffleref08_By.j0
      repeat' first
      | (with_reducible exact ih0 _ _ _ _ _)
      | (with_reducible exact ih1 _ _ _ _ _)
      | (with_reducible exact LeO.refl _)
      | (with_reducible exact LeO.none _)
      | (with_reducible refine LeO.ite ?_ ?_)
      | (with_reducible refine LeO.bind ?_ (fun _ => ?_))
      | exact ih0 _ _ _ _ _
      | exact ih1 _ _ _ _ _
      | exact LeO.none _
      | refine LeO.ite ?_ ?_
      | refine LeO.bind ?_ (fun _ => ?_)
    · intro y0 y1 y2 y3 y4
      unfold truffleref08_By.l0
      repeat' first
      | (with_reducible exact ih0 _ _ _ _ _)
      | (with_reducible exact ih1 _ _ _ _ _)
      | (with_reducible exact LeO.refl _)
      | (with_reducible exact LeO.none _)
      | (with_reducible refine LeO.ite ?_ ?_)
      | (with_reducible refine LeO.bind ?_ (fun _ => ?_))
      | exact ih0 _ _ _ _ _
      | exact ih1 _ _ _ _ _
      | exact LeO.none _
      | refine LeO.ite ?_ ?_
      | refine LeO.bind ?_ (fun _ => ?_)
theorem truffleref08_By.mono : ∀ a0 a1 a2 a3 k, LeO (truffleref08_By.f k a0 a1 a2 a3) (truffleref08_By.f (k + 1) a0 a1 a2 a3) := by
  intro a0 a1 a2 a3 k
  obtain ⟨ih0, ih1⟩ := truffleref08_By.mono_l k
  unfold truffleref08_By.f
  repeat' first
      | (with_reducible exact ih0 _ _ _ _ _)
      | (with_reducible exact ih1 _ _ _ _ _)
      | (with_reducible exact LeO.refl _)
      | (with_reducible exact LeO.none _)
      | (with_reducible refine LeO.ite ?_ ?_)
      | (with_reducible refine LeO.bind ?_ (fun _ => ?_))
      | exact ih0 _ _ _ _ _
      | exact ih1 _ _ _ _ _
      | exact LeO.none _
      | refine LeO.ite ?_ ?_
      | refine LeO.bind ?_ (fun _ => ?_)
set_option maxHeartbeats 8000000 in
set_option maxRecDepth 100000 in
theorem truffleref08_By.calls (k : Nat) (A0_0 : Option Addr) (c0_0 : Nat) (l0_0 : List (S58)) (A0_1 : Option Addr) (c0_1 : Nat) (l0_1 : List (S79)) (a1 : Int) (a2 : Int) (r1 : Int) (r2 : ByteArray) (r3 : Int) (r4 : Int) (r5 : Bool) (r6 : Int) (r7 : Int) (r8 : Bool) (w : World) (hr0_0 : Kd.C k58 w A0_0 l0_0.length l0_0) (hc0_0 : l0_0.length ≤ c0_0) (hr0_1 : Kd.C k79 w A0_1 l0_1.length l0_1) (hc0_1 : l0_1.length ≤ c0_1) (h : truffleref08_By.f k l0_0 l0_1 a1 a2 = some (r1, r2, r3, r4, r5, r6, r7, r8)) :
    Calls Tryz.prog 22 #[.agg #[.slice A0_0 l0_0.length c0_0, .slice A0_1 l0_1.length c0_1], .int .i64 a1, .int .i64 a2] w fun e w' => e = .returned (.tuple #[.agg #[.int .i64 r1, .string r2, .int .i64 r3, .int .i64 r4, .bool r5, .int .i64 r6, .int .i64 r7], .bool r8]) ∧ Below w.heap.size w w' := by
  have hu25 := Tryz.underlying25
  have hu47 := Tryz.underlying47
  have HR0_0 := Aside0.mk hr0_0
  have HC0_0 := Aside0.mk hc0_0
  clear hr0_0 hc0_0
  have HR0_1 := Aside0.mk hr0_1
  have HC0_1 := Aside0.mk hc0_1
  clear hr0_1 hc0_1
  have HB := Aside0.mk (Below.refl w.heap.size w)
  have H : (if a1 < 0 then (truffleref08_By.j0 k a1 a2 true l0_0 l0_1) else (truffleref08_By.j0 k a1 a2 (decide (a1 ≥ (l0_0.length : Int))) l0_0 l0_1)) = some (r1, r2, r3, r4, r5, r6, r7, r8) := h
  clear h
  have HC4 := Aside0.mk H
  clear H
  go_enter Tryz.func22, Tryz.ntmps22
  go_upto_region 1 with (first | ((with_reducible refine gate_dst (N := 3) rfl ?_); refine box_event ?hg (N := 3) ?hd (cs := #[.slice A0_0 l0_0.length c0_0, .slice A0_1 l0_1.length c0_1]) (t := 25) ?hr ?_; (case hd => rfl); (case hg => rfl); (case hr => first | (go_simp; done) | (go_simp; rfl)); intro gb187 hg w5 hbox hb; have n0_ := Aside0.mk (below_step (by repeat (first | (with_reducible first | exact HB.out | apply below_alloc | apply pw_below_drewN | apply below_drew1) | exact HB.out)) hb); have n1_ := Aside0.mk (hbox); have n2_ := Aside0.mk ((by rw [hg]; exact (below_size (by repeat (first | (with_reducible first | exact HB.out | apply below_alloc | apply pw_below_drewN | apply below_drew1) | exact HB.out))) : w.heap.size ≤ gb187)); have n3_ := Aside0.mk ((by rw [hg]; exact (below_size (by repeat (first | (with_reducible first | exact HB.out | apply below_alloc | apply pw_below_drewN | apply below_drew1) | exact HB.out))) : w.heap.size ≤ gb187)); clear HB; have HB := n0_; have BK187 := n1_; have GW187 := n2_; have GE187 := n3_; clear n0_ n1_ n2_ n3_; clear hb hbox hg) | ((with_reducible refine gate_dst (N := 6) rfl ?_); refine box_event ?hg (N := 6) ?hd (cs := #[.int .i64 0, .string (⟨#[]⟩ : ByteArray), .int .i64 0, .int .i64 0, .bool false, .int .i64 0, .int .i64 0]) (t := 47) ?hr ?_; (case hd => rfl); (case hg => rfl); (case hr => first | (go_simp; done) | (go_simp; rfl)); intro gb188 hg w6 hbox hb; have n0_ := Aside0.mk (blk_below (g := gb187) (o := .cells #[.slice A0_0 l0_0.length c0_0, .slice A0_1 l0_1.length c0_1] 25 (0, 0)) (by (with_reducible repeat (first | refine blk_drewN ?_ _ | refine blk_drew ?_ | refine blk_alloc ?_ _)); exact BK187.out) hb); have n1_ := Aside0.mk (below_step (by repeat (first | (with_reducible first | exact HB.out | apply below_alloc | apply pw_below_drewN | apply below_drew1 | refine below_set ?_ GE187.out) | exact HB.out)) hb); have n2_ := Aside0.mk (hbox); have n3_ := Aside0.mk ((by rw [hg]; exact (below_size (by repeat (first | (with_reducible first | exact HB.out | apply below_alloc | apply pw_below_drewN | apply below_drew1 | refine below_set ?_ GE187.out) | exact HB.out))) : w.heap.size ≤ gb188)); have n4_ := Aside0.mk ((by rw [hg]; exact (below_size (by repeat (first | (with_reducible first | exact HB.out | apply below_alloc | apply pw_below_drewN | apply below_drew1 | refine below_set ?_ GE187.out) | exact HB.out))) : w.heap.size ≤ gb188)); have n5_ := Aside0.mk ((by rw [hg]; exact Nat.ne_of_lt (blk_lt (g := gb187) (o := .cells #[.slice A0_0 l0_0.length c0_0, .slice A0_1 l0_1.length c0_1] 25 (0, 0)) (by (with_reducible repeat (first | refine blk_drewN ?_ _ | refine blk_drew ?_ | refine blk_alloc ?_ _)); exact BK187.out)) : gb187 ≠ gb188)); have n6_ := Aside0.mk ((by rw [hg]; exact Nat.ne_of_gt (blk_lt (g := gb187) (o := .cells #[.slice A0_0 l0_0.length c0_0, .slice A0_1 l0_1.length c0_1] 25 (0, 0)) (by (with_reducible repeat (first | refine blk_drewN ?_ _ | refine blk_drew ?_ | refine blk_alloc ?_ _)); exact BK187.out)) : gb188 ≠ gb187)); clear BK187; clear HB; have BK187 := n0_; have HB := n1_; have BK188 := n2_; have GW188 := n3_; have GE188 := n4_; have NB187_188 := n5_; have NB188_187 := n6_; clear n0_ n1_ n2_ n3_ n4_ n5_ n6_; clear hb hbox hg))
  (try simp only [Act.put, List.setIfInBounds_toArray, List.set_cons_zero, List.set_cons_succ])
  go_cut [17] (fun v17 wc => ∃ (kq : Nat) (x17_3 : Bool), v17 = .bool x17_3 ∧ Aside0 (truffleref08_By.j0 kq a1 a2 x17_3 l0_0 l0_1 = some (r1, r2, r3, r4, r5, r6, r7, r8)) ∧ Aside0 (kq ≤ k) ∧ Aside0 (wc.heap[gb187]? = some (.cells #[(.slice A0_0 l0_0.length c0_0), (.slice A0_1 l0_1.length c0_1)] 25 (0, 0))) ∧ Aside0 (wc.heap[gb188]? = some (.cells #[.int .i64 0, .string (⟨#[]⟩ : ByteArray), .int .i64 0, .int .i64 0, .bool false, .int .i64 0, .int .i64 0] 47 (0, 0))) ∧ Aside0 (Below w.heap.size w wc))
  case first =>
    have H := HC4.out
    clear HC4
    by_cases c7 : a1 < 0
    · rw [if_pos c7] at H
      have c7b0 : decide (a1 < 0) = true := decide_eq_true c7
      clear c7
      (first | rw [c7b0] | (simp only [i64_w, i32_w]; rw [c7b0]) | skip)
      have H' := Aside0.mk H
      clear H
      go_wp2
      go_meet
      case rel => exact ⟨_, (true), (by first | rfl | (simp; done) | (simp [*]; done)), H', ⟨by first | omega | exact Nat.le_refl _⟩, ⟨by (with_reducible repeat (first | refine blk_drewN ?_ _ | refine blk_drew ?_ | refine blk_alloc ?_ _)); exact BK187.out⟩, ⟨by (with_reducible repeat (first | refine blk_drewN ?_ _ | refine blk_drew ?_ | refine blk_alloc ?_ _)); exact BK188.out⟩, ⟨by repeat (first | (with_reducible first | exact HB.out | apply below_alloc | apply pw_below_drewN | apply below_drew1 | refine below_set ?_ GE187.out | refine below_set ?_ GE188.out) | exact HB.out)⟩⟩
    · rw [if_neg c7] at H
      have c7b0 : decide (a1 < 0) = false := decide_eq_false c7
      clear c7
      (first | rw [c7b0] | (simp only [i64_w, i32_w]; rw [c7b0]) | skip)
      have H' := Aside0.mk H
      clear H
      have hnb8 := NB187_188.out
      have hnc8 := NB188_187.out
      have hcz9_0 : w6.cell? ⟨gb187, 0, none⟩ = some (.slice A0_0 l0_0.length c0_0) := (blk_cell BK187.out 0).trans rfl
      have hcz9_1 : w6.cell? ⟨gb187, 1, none⟩ = some (.slice A0_1 l0_1.length c0_1) := (blk_cell BK187.out 1).trans rfl
      have hfz9_0 := blk_frozen BK187.out 0
      have hfz9_1 := blk_frozen BK187.out 1
      go_wp2
      go_meet
      case rel => exact ⟨_, (decide (a1 ≥ (l0_0.length : Int))), (by first | rfl | (simp; done) | (simp [*]; done)), H', ⟨by first | omega | exact Nat.le_refl _⟩, ⟨by (with_reducible repeat (first | refine blk_drewN ?_ _ | refine blk_drew ?_ | refine blk_alloc ?_ _)); exact BK187.out⟩, ⟨by (with_reducible repeat (first | refine blk_drewN ?_ _ | refine blk_drew ?_ | refine blk_alloc ?_ _)); exact BK188.out⟩, ⟨by repeat (first | (with_reducible first | exact HB.out | apply below_alloc | apply pw_below_drewN | apply below_drew1 | refine below_set ?_ GE187.out | refine below_set ?_ GE188.out) | exact HB.out)⟩⟩
  case rest =>
    clear HC4
    try clear c2
    try clear p2
    try clear c7
    try clear c7b0
    try clear c8
    try clear hcz9_0
    try clear hcz9_1
    try clear hfz9_0
    try clear hfz9_1
    obtain ⟨kq, x17_3, rfl, HA, HJ3, BK187, BK188, HB⟩ := hcut
    cases kq with
    | zero => exact absurd HA.out (by simp [truffleref08_By.j0])
    | succ kj3 =>
      have H := HA.out
      clear HA
      simp only [truffleref08_By.j0] at H
      by_cases c10 : x17_3 = true
      · subst c10
        have H1 : (some (0, (⟨#[]⟩ : ByteArray), 0, 0, false, 0, 0, false)) = some (r1, r2, r3, r4, r5, r6, r7, r8) := by rw [if_pos rfl] at H; exact H
        clear H
        have H := H1
        clear H1
        simp only [Option.some.injEq, Prod.mk.injEq] at H
        obtain ⟨rfl, rfl, rfl, rfl, rfl, rfl, rfl, rfl⟩ := H
        have hnb11 := NB188_187.out
        have hnc11 := NB187_188.out
        have hcz12_0 : wc.cell? ⟨gb188, 0, none⟩ = some (.int .i64 0) := (blk_cell BK188.out 0).trans rfl
        have hcz12_1 : wc.cell? ⟨gb188, 1, none⟩ = some (.string (⟨#[]⟩ : ByteArray)) := (blk_cell BK188.out 1).trans rfl
        have hcz12_2 : wc.cell? ⟨gb188, 2, none⟩ = some (.int .i64 0) := (blk_cell BK188.out 2).trans rfl
        have hcz12_3 : wc.cell? ⟨gb188, 3, none⟩ = some (.int .i64 0) := (blk_cell BK188.out 3).trans rfl
        have hcz12_4 : wc.cell? ⟨gb188, 4, none⟩ = some (.bool false) := (blk_cell BK188.out 4).trans rfl
        have hcz12_5 : wc.cell? ⟨gb188, 5, none⟩ = some (.int .i64 0) := (blk_cell BK188.out 5).trans rfl
        have hcz12_6 : wc.cell? ⟨gb188, 6, none⟩ = some (.int .i64 0) := (blk_cell BK188.out 6).trans rfl
        have hfz12_0 := blk_frozen BK188.out 0
        have hfz12_1 := blk_frozen BK188.out 1
        have hfz12_2 := blk_frozen BK188.out 2
        have hfz12_3 := blk_frozen BK188.out 3
        have hfz12_4 := blk_frozen BK188.out 4
        have hfz12_5 := blk_frozen BK188.out 5
        have hfz12_6 := blk_frozen BK188.out 6
        go_wp2
        refine bodyPost_ret (results_ct rfl _ _ gb188 47 #[.int .i64 0, .string (⟨#[]⟩ : ByteArray), .int .i64 0, .int .i64 0, .bool false, .int .i64 0, .int .i64 0] (0, 0) _ rfl (by (with_reducible repeat (first | refine blk_drewN ?_ _ | refine blk_drew ?_ | refine blk_alloc ?_ _)); refine blk_put (cs := #[.int .i64 0, .string (⟨#[]⟩ : ByteArray), .int .i64 0, .int .i64 0, .bool false, .int .i64 0, .int .i64 0]) ?_ 6 _ rfl; (with_reducible repeat (first | refine blk_drewN ?_ _ | refine blk_drew ?_ | refine blk_alloc ?_ _)); refine blk_put (cs := #[.int .i64 0, .string (⟨#[]⟩ : ByteArray), .int .i64 0, .int .i64 0, .bool false, .int .i64 0, .int .i64 0]) ?_ 5 _ rfl; (with_reducible repeat (first | refine blk_drewN ?_ _ | refine blk_drew ?_ | refine blk_alloc ?_ _)); refine blk_put (cs := #[.int .i64 0, .string (⟨#[]⟩ : ByteArray), .int .i64 0, .int .i64 0, .bool false, .int .i64 0, .int .i64 0]) ?_ 4 _ rfl; (with_reducible repeat (first | refine blk_drewN ?_ _ | refine blk_drew ?_ | refine blk_alloc ?_ _)); refine blk_put (cs := #[.int .i64 0, .string (⟨#[]⟩ : ByteArray), .int .i64 0, .int .i64 0, .bool false, .int .i64 0, .int .i64 0]) ?_ 3 _ rfl; (with_reducible repeat (first | refine blk_drewN ?_ _ | refine blk_drew ?_ | refine blk_alloc ?_ _)); refine blk_put (cs := #[.int .i64 0, .string (⟨#[]⟩ : ByteArray), .int .i64 0, .int .i64 0, .bool false, .int .i64 0, .int .i64 0]) ?_ 2 _ rfl; (with_reducible repeat (first | refine blk_drewN ?_ _ | refine blk_drew ?_ | refine blk_alloc ?_ _)); refine blk_put (cs := #[.int .i64 0, .string (⟨#[]⟩ : ByteArray), .int .i64 0, .int .i64 0, .bool false, .int .i64 0, .int .i64 0]) ?_ 1 _ rfl; (with_reducible repeat (first | refine blk_drewN ?_ _ | refine blk_drew ?_ | refine blk_alloc ?_ _)); refine blk_put (cs := #[.int .i64 0, .string (⟨#[]⟩ : ByteArray), .int .i64 0, .int .i64 0, .bool false, .int .i64 0, .int .i64 0]) ?_ 0 _ rfl; (with_reducible repeat (first | refine blk_drewN ?_ _ | refine blk_drew ?_ | refine blk_alloc ?_ _)); exact BK188.out) Tryz.underlying47 rfl (by kernel_rfl)) rfl ?_
        exact ⟨by first | rfl | (simp [errW_none, errW_some] <;> rfl) | (simp [*, errW_none, errW_some] <;> rfl), by repeat (first | (with_reducible first | exact HB.out | apply below_alloc | apply pw_below_drewN | apply below_drew1 | refine below_set ?_ GE187.out | refine below_set ?_ GE188.out) | exact HB.out)⟩
      · replace c10 := Bool.eq_false_iff.mpr c10
        subst c10
        have H1 : (truffleref08_By.l0 kj3 a1 a2 0 l0_0 l0_1) = some (r1, r2, r3, r4, r5, r6, r7, r8) := by rw [if_neg (show ¬ (false = true) by decide)] at H; exact H
        clear H
        have H := H1
        clear H1
        have H' := Aside0.mk H
        clear H
        go_wp2
        go_loopg [8] kj3 (fun kq v8 w' => ∃ (x8_2 : Int) (x189000_2 : Int) (x189001_2 : ByteArray) (x189002_2 : Int) (x189003_2 : Int) (x189004_2 : Bool) (x189005_2 : Int) (x189006_2 : Int), v8 = .int .i64 x8_2 ∧ Aside0 (truffleref08_By.l0 kq a1 a2 x8_2 l0_0 l0_1 = some (r1, r2, r3, r4, r5, r6, r7, r8)) ∧ Aside0 (kq ≤ kj3) ∧ Aside0 (w'.heap[gb187]? = some (.cells #[(.slice A0_0 l0_0.length c0_0), (.slice A0_1 l0_1.length c0_1)] 25 (0, 0))) ∧ Aside0 (w'.heap[gb188]? = some (.cells #[.int .i64 x189000_2, .string x189001_2, .int .i64 x189002_2, .int .i64 x189003_2, .bool x189004_2, .int .i64 x189005_2, .int .i64 x189006_2] 47 (0, 0))) ∧ Aside0 (Below w.heap.size w w'))
        case atStart => exact ⟨(0), (0), ((⟨#[]⟩ : ByteArray)), (0), (0), (false), (0), (0), (by first | rfl | (simp; done) | (simp [*]; done)), H', ⟨Nat.le_refl _⟩, ⟨by (with_reducible repeat (first | refine blk_drewN ?_ _ | refine blk_drew ?_ | refine blk_alloc ?_ _)); exact BK187.out⟩, ⟨by (with_reducible repeat (first | refine blk_drewN ?_ _ | refine blk_drew ?_ | refine blk_alloc ?_ _)); exact BK188.out⟩, ⟨by repeat (first | (with_reducible first | exact HB.out | apply below_alloc | apply pw_below_drewN | apply below_drew1 | refine below_set ?_ GE187.out | refine below_set ?_ GE188.out) | exact HB.out)⟩⟩
        case round =>
          clear H'
          try clear c1
          try clear c2
          try clear p2
          try clear c7
          try clear c7b0
          try clear c8
          try clear c10
          try clear c11
          try clear hcz12_0
          try clear hcz12_1
          try clear hcz12_2
          try clear hcz12_3
          try clear hcz12_4
          try clear hcz12_5
          try clear hcz12_6
          try clear hcz9_0
          try clear hcz9_1
          try clear hfz12_0
          try clear hfz12_1
          try clear hfz12_2
          try clear hfz12_3
          try clear hfz12_4
          try clear hfz12_5
          try clear hfz12_6
          try clear hfz9_0
          try clear hfz9_1
          try clear p2
          obtain ⟨x8_2, x189000_2, x189001_2, x189002_2, x189003_2, x189004_2, x189005_2, x189006_2, rfl, HA, HK2, BK187, BK188, HB⟩ := hrel
          cases gk with
          | zero => exact absurd HA.out (by simp [truffleref08_By.l0])
          | succ k2 =>
            have H := HA.out
            clear HA
            simp only [truffleref08_By.l0] at H
            by_cases c13 : 0 ≤ a1
            · rw [if_pos c13] at H
              have c13b0 : decide (0 ≤ a1) = true := decide_eq_true c13
              clear c13
              by_cases c14 : a1 < (l0_0.length : Int)
              · rw [if_pos c14] at H
                have c14b0 : decide (a1 < (l0_0.length : Int)) = true := decide_eq_true c14
                clear c14
                by_cases c15 : x8_2 < (((rd_T58 l0_0 a1).f1).length : Int)
                · rw [if_pos c15] at H
                  have c15b0 : decide (x8_2 < (((rd_T58 l0_0 a1).f1).length : Int)) = true := decide_eq_true c15
                  clear c15
                  by_cases c16 : 0 ≤ x8_2
                  · rw [if_pos c16] at H
                    have c16b0 : decide (0 ≤ x8_2) = true := decide_eq_true c16
                    clear c16
                    by_cases c17 : ((rd_T47 ((rd_T58 l0_0 a1).f1) x8_2).f0) = a2
                    · rw [if_pos c17] at H
                      have c17b0 : (((rd_T47 ((rd_T58 l0_0 a1).f1) x8_2).f0) == a2) = true := beq_iff_eq.mpr c17
                      have c17b1 : (((rd_T47 ((rd_T58 l0_0 a1).f1) x8_2).f0) != a2) = false := bne_eq_false_iff_eq.mpr c17
                      clear c17
                      simp only [Option.some.injEq, Prod.mk.injEq] at H
                      obtain ⟨rfl, rfl, rfl, rfl, rfl, rfl, rfl, rfl⟩ := H
                      have hnb18 := NB187_188.out
                      have hnc18 := NB188_187.out
                      have hcz19_0 : wr.cell? ⟨gb187, 0, none⟩ = some (.slice A0_0 l0_0.length c0_0) := (blk_cell BK187.out 0).trans rfl
                      have hcz19_1 : wr.cell? ⟨gb187, 1, none⟩ = some (.slice A0_1 l0_1.length c0_1) := (blk_cell BK187.out 1).trans rfl
                      have hfz19_0 := blk_frozen BK187.out 0
                      have hfz19_1 := blk_frozen BK187.out 1
                      have p189 : 0 ≤ (a1 : Int) := of_decide_eq_true (by first | (with_reducible assumption) | assumption)
                      have q189 : a1 < (l0_0.length : Int) := of_decide_eq_true (by first | (with_reducible assumption) | assumption)
                      obtain ⟨ad189, A189_1, c189_1, e189, hx189_0, hx189_1, hl189_1, hi189_1⟩ := at_T58 HR0_0.out a1 p189 q189
                      cases e189
                      replace hx189_0 := (HB.out.cell (World.block_lt_of_cell? w _ hx189_0)).trans hx189_0
                      replace hx189_1 := (HB.out.cell (World.block_lt_of_cell? w _ hx189_1)).trans hx189_1
                      have HR189_1 := Aside0.mk hi189_1
                      have HC189_1 := Aside0.mk hl189_1
                      clear hi189_1 hl189_1
                      replace p189 := eq_true p189
                      replace q189 := eq_true q189
                      have p190 : 0 ≤ (a1 : Int) := of_decide_eq_true (by first | (with_reducible assumption) | assumption)
                      have q190 : a1 < (l0_0.length : Int) := of_decide_eq_true (by first | (with_reducible assumption) | assumption)
                      obtain ⟨ad190, A190_1, c190_1, e190, hx190_0, hx190_1, hl190_1, hi190_1⟩ := at_T58 HR0_0.out a1 p190 q190
                      obtain rfl : ad189 = ad190 := (by injection e190)
                      replace hx190_0 := (HB.out.cell (World.block_lt_of_cell? w _ hx190_0)).trans hx190_0
                      replace hx190_1 := (HB.out.cell (World.block_lt_of_cell? w _ hx190_1)).trans hx190_1
                      have HR190_1 := Aside0.mk hi190_1
                      have HC190_1 := Aside0.mk hl190_1
                      clear hi190_1 hl190_1
                      replace p190 := eq_true p190
                      replace q190 := eq_true q190
                      have ea_ := Option.some.inj (hx189_1.symm.trans hx190_1)
                      injection ea_ with ea_ en_ ec_
                      subst ea_
                      subst ec_
                      clear en_
                      have p191 : 0 ≤ (x8_2 : Int) := of_decide_eq_true (by first | (with_reducible assumption) | assumption)
                      have q191 : x8_2 < (((rd_T58 l0_0 a1).f1).length : Int) := of_decide_eq_true (by first | (with_reducible assumption) | assumption)
                      obtain ⟨ad191, e191, hx191_0, hx191_1, hx191_2, hx191_3, hx191_4, hx191_5, hx191_6⟩ := at_T47 HR190_1.out x8_2 p191 q191
                      cases e191
                      replace hx191_0 := (HB.out.cell (World.block_lt_of_cell? w _ hx191_0)).trans hx191_0
                      replace hx191_1 := (HB.out.cell (World.block_lt_of_cell? w _ hx191_1)).trans hx191_1
                      replace hx191_2 := (HB.out.cell (World.block_lt_of_cell? w _ hx191_2)).trans hx191_2
                      replace hx191_3 := (HB.out.cell (World.block_lt_of_cell? w _ hx191_3)).trans hx191_3
                      replace hx191_4 := (HB.out.cell (World.block_lt_of_cell? w _ hx191_4)).trans hx191_4
                      replace hx191_5 := (HB.out.cell (World.block_lt_of_cell? w _ hx191_5)).trans hx191_5
                      replace hx191_6 := (HB.out.cell (World.block_lt_of_cell? w _ hx191_6)).trans hx191_6
                      replace p191 := eq_true p191
                      replace q191 := eq_true q191
                      have p192 : 0 ≤ (a1 : Int) := of_decide_eq_true (by first | (with_reducible assumption) | assumption)
                      have q192 : a1 < (l0_0.length : Int) := of_decide_eq_true (by first | (with_reducible assumption) | assumption)
                      obtain ⟨ad192, A192_1, c192_1, e192, hx192_0, hx192_1, hl192_1, hi192_1⟩ := at_T58 HR0_0.out a1 p192 q192
                      obtain rfl : ad189 = ad192 := (by injection e192)
                      replace hx192_0 := (HB.out.cell (World.block_lt_of_cell? w _ hx192_0)).trans hx192_0
                      replace hx192_1 := (HB.out.cell (World.block_lt_of_cell? w _ hx192_1)).trans hx192_1
                      have HR192_1 := Aside0.mk hi192_1
                      have HC192_1 := Aside0.mk hl192_1
                      clear hi192_1 hl192_1
                      replace p192 := eq_true p192
                      replace q192 := eq_true q192
                      have ea_ := Option.some.inj (hx189_1.symm.trans hx192_1)
                      injection ea_ with ea_ en_ ec_
                      subst ea_
                      subst ec_
                      clear en_
                      have p193 : 0 ≤ (x8_2 : Int) := of_decide_eq_true (by first | (with_reducible assumption) | assumption)
                      have q193 : x8_2 < (((rd_T58 l0_0 a1).f1).length : Int) := of_decide_eq_true (by first | (with_reducible assumption) | assumption)
                      obtain ⟨ad193, e193, hx193_0, hx193_1, hx193_2, hx193_3, hx193_4, hx193_5, hx193_6⟩ := at_T47 HR192_1.out x8_2 p193 q193
                      cases e193
                      replace hx193_0 := (HB.out.cell (World.block_lt_of_cell? w _ hx193_0)).trans hx193_0
                      replace hx193_1 := (HB.out.cell (World.block_lt_of_cell? w _ hx193_1)).trans hx193_1
                      replace hx193_2 := (HB.out.cell (World.block_lt_of_cell? w _ hx193_2)).trans hx193_2
                      replace hx193_3 := (HB.out.cell (World.block_lt_of_cell? w _ hx193_3)).trans hx193_3
                      replace hx193_4 := (HB.out.cell (World.block_lt_of_cell? w _ hx193_4)).trans hx193_4
                      replace hx193_5 := (HB.out.cell (World.block_lt_of_cell? w _ hx193_5)).trans hx193_5
                      replace hx193_6 := (HB.out.cell (World.block_lt_of_cell? w _ hx193_6)).trans hx193_6
                      replace p193 := eq_true p193
                      replace q193 := eq_true q193
                      have hcz20_0 : wr.cell? ⟨gb188, 0, none⟩ = some (.int .i64 x189000_2) := (blk_cell BK188.out 0).trans rfl
                      have hcz20_1 : wr.cell? ⟨gb188, 1, none⟩ = some (.string x189001_2) := (blk_cell BK188.out 1).trans rfl
                      have hcz20_2 : wr.cell? ⟨gb188, 2, none⟩ = some (.int .i64 x189002_2) := (blk_cell BK188.out 2).trans rfl
                      have hcz20_3 : wr.cell? ⟨gb188, 3, none⟩ = some (.int .i64 x189003_2) := (blk_cell BK188.out 3).trans rfl
                      have hcz20_4 : wr.cell? ⟨gb188, 4, none⟩ = some (.bool x189004_2) := (blk_cell BK188.out 4).trans rfl
                      have hcz20_5 : wr.cell? ⟨gb188, 5, none⟩ = some (.int .i64 x189005_2) := (blk_cell BK188.out 5).trans rfl
                      have hcz20_6 : wr.cell? ⟨gb188, 6, none⟩ = some (.int .i64 x189006_2) := (blk_cell BK188.out 6).trans rfl
                      have hfz20_0 := blk_frozen BK188.out 0
                      have hfz20_1 := blk_frozen BK188.out 1
                      have hfz20_2 := blk_frozen BK188.out 2
                      have hfz20_3 := blk_frozen BK188.out 3
                      have hfz20_4 := blk_frozen BK188.out 4
                      have hfz20_5 := blk_frozen BK188.out 5
                      have hfz20_6 := blk_frozen BK188.out 6
                      go_wp2
                      refine bodyPost_ret (results_ct rfl _ _ gb188 47 #[.int .i64 ((rd_T47 ((rd_T58 l0_0 a1).f1) x8_2).f0), .string ((rd_T47 ((rd_T58 l0_0 a1).f1) x8_2).f1), .int .i64 ((rd_T47 ((rd_T58 l0_0 a1).f1) x8_2).f2), .int .i64 ((rd_T47 ((rd_T58 l0_0 a1).f1) x8_2).f3), .bool ((rd_T47 ((rd_T58 l0_0 a1).f1) x8_2).f4), .int .i64 ((rd_T47 ((rd_T58 l0_0 a1).f1) x8_2).f5), .int .i64 ((rd_T47 ((rd_T58 l0_0 a1).f1) x8_2).f6)] (0, 0) _ rfl (by (with_reducible repeat (first | refine blk_drewN ?_ _ | refine blk_drew ?_ | refine blk_alloc ?_ _)); refine blk_put (cs := #[.int .i64 ((rd_T47 ((rd_T58 l0_0 a1).f1) x8_2).f0), .string ((rd_T47 ((rd_T58 l0_0 a1).f1) x8_2).f1), .int .i64 ((rd_T47 ((rd_T58 l0_0 a1).f1) x8_2).f2), .int .i64 ((rd_T47 ((rd_T58 l0_0 a1).f1) x8_2).f3), .bool ((rd_T47 ((rd_T58 l0_0 a1).f1) x8_2).f4), .int .i64 ((rd_T47 ((rd_T58 l0_0 a1).f1) x8_2).f5), .int .i64 x189006_2]) ?_ 6 _ rfl; (with_reducible repeat (first | refine blk_drewN ?_ _ | refine blk_drew ?_ | refine blk_alloc ?_ _)); refine blk_put (cs := #[.int .i64 ((rd_T47 ((rd_T58 l0_0 a1).f1) x8_2).f0), .string ((rd_T47 ((rd_T58 l0_0 a1).f1) x8_2).f1), .int .i64 ((rd_T47 ((rd_T58 l0_0 a1).f1) x8_2).f2), .int .i64 ((rd_T47 ((rd_T58 l0_0 a1).f1) x8_2).f3), .bool ((rd_T47 ((rd_T58 l0_0 a1).f1) x8_2).f4), .int .i64 x189005_2, .int .i64 x189006_2]) ?_ 5 _ rfl; (with_reducible repeat (first | refine blk_drewN ?_ _ | refine blk_drew ?_ | refine blk_alloc ?_ _)); refine blk_put (cs := #[.int .i64 ((rd_T47 ((rd_T58 l0_0 a1).f1) x8_2).f0), .string ((rd_T47 ((rd_T58 l0_0 a1).f1) x8_2).f1), .int .i64 ((rd_T47 ((rd_T58 l0_0 a1).f1) x8_2).f2), .int .i64 ((rd_T47 ((rd_T58 l0_0 a1).f1) x8_2).f3), .bool x189004_2, .int .i64 x189005_2, .int .i64 x189006_2]) ?_ 4 _ rfl; (with_reducible repeat (first | refine blk_drewN ?_ _ | refine blk_drew ?_ | refine blk_alloc ?_ _)); refine blk_put (cs := #[.int .i64 ((rd_T47 ((rd_T58 l0_0 a1).f1) x8_2).f0), .string ((rd_T47 ((rd_T58 l0_0 a1).f1) x8_2).f1), .int .i64 ((rd_T47 ((rd_T58 l0_0 a1).f1) x8_2).f2), .int .i64 x189003_2, .bool x189004_2, .int .i64 x189005_2, .int .i64 x189006_2]) ?_ 3 _ rfl; (with_reducible repeat (first | refine blk_drewN ?_ _ | refine blk_drew ?_ | refine blk_alloc ?_ _)); refine blk_put (cs := #[.int .i64 ((rd_T47 ((rd_T58 l0_0 a1).f1) x8_2).f0), .string ((rd_T47 ((rd_T58 l0_0 a1).f1) x8_2).f1), .int .i64 x189002_2, .int .i64 x189003_2, .bool x189004_2, .int .i64 x189005_2, .int .i64 x189006_2]) ?_ 2 _ rfl; (with_reducible repeat (first | refine blk_drewN ?_ _ | refine blk_drew ?_ | refine blk_alloc ?_ _)); refine blk_put (cs := #[.int .i64 ((rd_T47 ((rd_T58 l0_0 a1).f1) x8_2).f0), .string x189001_2, .int .i64 x189002_2, .int .i64 x189003_2, .bool x189004_2, .int .i64 x189005_2, .int .i64 x189006_2]) ?_ 1 _ rfl; (with_reducible repeat (first | refine blk_drewN ?_ _ | refine blk_drew ?_ | refine blk_alloc ?_ _)); refine blk_put (cs := #[.int .i64 x189000_2, .string x189001_2, .int .i64 x189002_2, .int .i64 x189003_2, .bool x189004_2, .int .i64 x189005_2, .int .i64 x189006_2]) ?_ 0 _ rfl; (with_reducible repeat (first | refine blk_drewN ?_ _ | refine blk_drew ?_ | refine blk_alloc ?_ _)); exact BK188.out) Tryz.underlying47 rfl (by kernel_rfl)) rfl ?_
                      exact ⟨by first | rfl | (simp [errW_none, errW_some] <;> rfl) | (simp [*, errW_none, errW_some] <;> rfl), by repeat (first | (with_reducible first | exact HB.out | apply below_alloc | apply pw_below_drewN | apply below_drew1 | refine below_set ?_ GE187.out | refine below_set ?_ GE188.out) | exact HB.out)⟩
                    · rw [if_neg c17] at H
                      have c17b0 : (((rd_T47 ((rd_T58 l0_0 a1).f1) x8_2).f0) == a2) = false := beq_eq_false_iff_ne.mpr c17
                      have c17b1 : (((rd_T47 ((rd_T58 l0_0 a1).f1) x8_2).f0) != a2) = true := bne_iff_ne.mpr c17
                      have H' := Aside0.mk H
                      clear H
                      have hnb21 := NB187_188.out
                      have hnc21 := NB188_187.out
                      have hcz22_0 : wr.cell? ⟨gb187, 0, none⟩ = some (.slice A0_0 l0_0.length c0_0) := (blk_cell BK187.out 0).trans rfl
                      have hcz22_1 : wr.cell? ⟨gb187, 1, none⟩ = some (.slice A0_1 l0_1.length c0_1) := (blk_cell BK187.out 1).trans rfl
                      have hfz22_0 := blk_frozen BK187.out 0
                      have hfz22_1 := blk_frozen BK187.out 1
                      have p189 : 0 ≤ (a1 : Int) := of_decide_eq_true (by first | (with_reducible assumption) | assumption)
                      have q189 : a1 < (l0_0.length : Int) := of_decide_eq_true (by first | (with_reducible assumption) | assumption)
                      obtain ⟨ad189, A189_1, c189_1, e189, hx189_0, hx189_1, hl189_1, hi189_1⟩ := at_T58 HR0_0.out a1 p189 q189
                      cases e189
                      replace hx189_0 := (HB.out.cell (World.block_lt_of_cell? w _ hx189_0)).trans hx189_0
                      replace hx189_1 := (HB.out.cell (World.block_lt_of_cell? w _ hx189_1)).trans hx189_1
                      have HR189_1 := Aside0.mk hi189_1
                      have HC189_1 := Aside0.mk hl189_1
                      clear hi189_1 hl189_1
                      replace p189 := eq_true p189
                      replace q189 := eq_true q189
                      have p190 : 0 ≤ (a1 : Int) := of_decide_eq_true (by first | (with_reducible assumption) | assumption)
                      have q190 : a1 < (l0_0.length : Int) := of_decide_eq_true (by first | (with_reducible assumption) | assumption)
                      obtain ⟨ad190, A190_1, c190_1, e190, hx190_0, hx190_1, hl190_1, hi190_1⟩ := at_T58 HR0_0.out a1 p190 q190
                      obtain rfl : ad189 = ad190 := (by injection e190)
                      replace hx190_0 := (HB.out.cell (World.block_lt_of_cell? w _ hx190_0)).trans hx190_0
                      replace hx190_1 := (HB.out.cell (World.block_lt_of_cell? w _ hx190_1)).trans hx190_1
                      have HR190_1 := Aside0.mk hi190_1
                      have HC190_1 := Aside0.mk hl190_1
                      clear hi190_1 hl190_1
                      replace p190 := eq_true p190
                      replace q190 := eq_true q190
                      have ea_ := Option.some.inj (hx189_1.symm.trans hx190_1)
                      injection ea_ with ea_ en_ ec_
                      subst ea_
                      subst ec_
                      clear en_
                      have p191 : 0 ≤ (x8_2 : Int) := of_decide_eq_true (by first | (with_reducible assumption) | assumption)
                      have q191 : x8_2 < (((rd_T58 l0_0 a1).f1).length : Int) := of_decide_eq_true (by first | (with_reducible assumption) | assumption)
                      obtain ⟨ad191, e191, hx191_0, hx191_1, hx191_2, hx191_3, hx191_4, hx191_5, hx191_6⟩ := at_T47 HR190_1.out x8_2 p191 q191
                      cases e191
                      replace hx191_0 := (HB.out.cell (World.block_lt_of_cell? w _ hx191_0)).trans hx191_0
                      replace hx191_1 := (HB.out.cell (World.block_lt_of_cell? w _ hx191_1)).trans hx191_1
                      replace hx191_2 := (HB.out.cell (World.block_lt_of_cell? w _ hx191_2)).trans hx191_2
                      replace hx191_3 := (HB.out.cell (World.block_lt_of_cell? w _ hx191_3)).trans hx191_3
                      replace hx191_4 := (HB.out.cell (World.block_lt_of_cell? w _ hx191_4)).trans hx191_4
                      replace hx191_5 := (HB.out.cell (World.block_lt_of_cell? w _ hx191_5)).trans hx191_5
                      replace hx191_6 := (HB.out.cell (World.block_lt_of_cell? w _ hx191_6)).trans hx191_6
                      replace p191 := eq_true p191
                      replace q191 := eq_true q191
                      go_wp2
                      go_roundg k2
                      case measure => have := HJ3.out; have := HK2.out; omega
                      case rel => exact ⟨(wrap64 (x8_2 + 1)), (x189000_2), (x189001_2), (x189002_2), (x189003_2), (x189004_2), (x189005_2), (x189006_2), (by first | rfl | (simp; done) | (simp [*]; done)), H', ⟨by have := HJ3.out; have := HK2.out; omega⟩, ⟨by (with_reducible repeat (first | refine blk_drewN ?_ _ | refine blk_drew ?_ | refine blk_alloc ?_ _)); exact BK187.out⟩, ⟨by (with_reducible repeat (first | refine blk_drewN ?_ _ | refine blk_drew ?_ | refine blk_alloc ?_ _)); exact BK188.out⟩, ⟨by repeat (first | (with_reducible first | exact HB.out | apply below_alloc | apply pw_below_drewN | apply below_drew1 | refine below_set ?_ GE187.out | refine below_set ?_ GE188.out) | exact HB.out)⟩⟩
                  · rw [if_neg c16] at H
                    exact absurd H (by simp)
                · rw [if_neg c15] at H
                  have c15b0 : decide (x8_2 < (((rd_T58 l0_0 a1).f1).length : Int)) = false := decide_eq_false c15
                  clear c15
                  simp only [Option.some.injEq, Prod.mk.injEq] at H
                  obtain ⟨rfl, rfl, rfl, rfl, rfl, rfl, rfl, rfl⟩ := H
                  have hnb23 := NB187_188.out
                  have hnc23 := NB188_187.out
                  have hcz24_0 : wr.cell? ⟨gb187, 0, none⟩ = some (.slice A0_0 l0_0.length c0_0) := (blk_cell BK187.out 0).trans rfl
                  have hcz24_1 : wr.cell? ⟨gb187, 1, none⟩ = some (.slice A0_1 l0_1.length c0_1) := (blk_cell BK187.out 1).trans rfl
                  have hfz24_0 := blk_frozen BK187.out 0
                  have hfz24_1 := blk_frozen BK187.out 1
                  have p189 : 0 ≤ (a1 : Int) := of_decide_eq_true (by first | (with_reducible assumption) | assumption)
                  have q189 : a1 < (l0_0.length : Int) := of_decide_eq_true (by first | (with_reducible assumption) | assumption)
                  obtain ⟨ad189, A189_1, c189_1, e189, hx189_0, hx189_1, hl189_1, hi189_1⟩ := at_T58 HR0_0.out a1 p189 q189
                  cases e189
                  replace hx189_0 := (HB.out.cell (World.block_lt_of_cell? w _ hx189_0)).trans hx189_0
                  replace hx189_1 := (HB.out.cell (World.block_lt_of_cell? w _ hx189_1)).trans hx189_1
                  have HR189_1 := Aside0.mk hi189_1
                  have HC189_1 := Aside0.mk hl189_1
                  clear hi189_1 hl189_1
                  replace p189 := eq_true p189
                  replace q189 := eq_true q189
                  have hcz25_0 : wr.cell? ⟨gb188, 0, none⟩ = some (.int .i64 x189000_2) := (blk_cell BK188.out 0).trans rfl
                  have hcz25_1 : wr.cell? ⟨gb188, 1, none⟩ = some (.string x189001_2) := (blk_cell BK188.out 1).trans rfl
                  have hcz25_2 : wr.cell? ⟨gb188, 2, none⟩ = some (.int .i64 x189002_2) := (blk_cell BK188.out 2).trans rfl
                  have hcz25_3 : wr.cell? ⟨gb188, 3, none⟩ = some (.int .i64 x189003_2) := (blk_cell BK188.out 3).trans rfl
                  have hcz25_4 : wr.cell? ⟨gb188, 4, none⟩ = some (.bool x189004_2) := (blk_cell BK188.out 4).trans rfl
                  have hcz25_5 : wr.cell? ⟨gb188, 5, none⟩ = some (.int .i64 x189005_2) := (blk_cell BK188.out 5).trans rfl
                  have hcz25_6 : wr.cell? ⟨gb188, 6, none⟩ = some (.int .i64 x189006_2) := (blk_cell BK188.out 6).trans rfl
                  have hfz25_0 := blk_frozen BK188.out 0
                  have hfz25_1 := blk_frozen BK188.out 1
                  have hfz25_2 := blk_frozen BK188.out 2
                  have hfz25_3 := blk_frozen BK188.out 3
                  have hfz25_4 := blk_frozen BK188.out 4
                  have hfz25_5 := blk_frozen BK188.out 5
                  have hfz25_6 := blk_frozen BK188.out 6
                  go_wp2
                  refine bodyPost_ret (results_ct rfl _ _ gb188 47 #[.int .i64 0, .string (⟨#[]⟩ : ByteArray), .int .i64 0, .int .i64 0, .bool false, .int .i64 0, .int .i64 0] (0, 0) _ rfl (by (with_reducible repeat (first | refine blk_drewN ?_ _ | refine blk_drew ?_ | refine blk_alloc ?_ _)); refine blk_put (cs := #[.int .i64 0, .string (⟨#[]⟩ : ByteArray), .int .i64 0, .int .i64 0, .bool false, .int .i64 0, .int .i64 x189006_2]) ?_ 6 _ rfl; (with_reducible repeat (first | refine blk_drewN ?_ _ | refine blk_drew ?_ | refine blk_alloc ?_ _)); refine blk_put (cs := #[.int .i64 0, .string (⟨#[]⟩ : ByteArray), .int .i64 0, .int .i64 0, .bool false, .int .i64 x189005_2, .int .i64 x189006_2]) ?_ 5 _ rfl; (with_reducible repeat (first | refine blk_drewN ?_ _ | refine blk_drew ?_ | refine blk_alloc ?_ _)); refine blk_put (cs := #[.int .i64 0, .string (⟨#[]⟩ : ByteArray), .int .i64 0, .int .i64 0, .bool x189004_2, .int .i64 x189005_2, .int .i64 x189006_2]) ?_ 4 _ rfl; (with_reducible repeat (first | refine blk_drewN ?_ _ | refine blk_drew ?_ | refine blk_alloc ?_ _)); refine blk_put (cs := #[.int .i64 0, .string (⟨#[]⟩ : ByteArray), .int .i64 0, .int .i64 x189003_2, .bool x189004_2, .int .i64 x189005_2, .int .i64 x189006_2]) ?_ 3 _ rfl; (with_reducible repeat (first | refine blk_drewN ?_ _ | refine blk_drew ?_ | refine blk_alloc ?_ _)); refine blk_put (cs := #[.int .i64 0, .string (⟨#[]⟩ : ByteArray), .int .i64 x189002_2, .int .i64 x189003_2, .bool x189004_2, .int .i64 x189005_2, .int .i64 x189006_2]) ?_ 2 _ rfl; (with_reducible repeat (first | refine blk_drewN ?_ _ | refine blk_drew ?_ | refine blk_alloc ?_ _)); refine blk_put (cs := #[.int .i64 0, .string x189001_2, .int .i64 x189002_2, .int .i64 x189003_2, .bool x189004_2, .int .i64 x189005_2, .int .i64 x189006_2]) ?_ 1 _ rfl; (with_reducible repeat (first | refine blk_drewN ?_ _ | refine blk_drew ?_ | refine blk_alloc ?_ _)); refine blk_put (cs := #[.int .i64 x189000_2, .string x189001_2, .int .i64 x189002_2, .int .i64 x189003_2, .bool x189004_2, .int .i64 x189005_2, .int .i64 x189006_2]) ?_ 0 _ rfl; (with_reducible repeat (first | refine blk_drewN ?_ _ | refine blk_drew ?_ | refine blk_alloc ?_ _)); exact BK188.out) Tryz.underlying47 rfl (by kernel_rfl)) rfl ?_
                  exact ⟨by first | rfl | (simp [errW_none, errW_some] <;> rfl) | (simp [*, errW_none, errW_some] <;> rfl), by repeat (first | (with_reducible first | exact HB.out | apply below_alloc | apply pw_below_drewN | apply below_drew1 | refine below_set ?_ GE187.out | refine below_set ?_ GE188.out) | exact HB.out)⟩
              · rw [if_neg c14] at H
                exact absurd H (by simp)
            · rw [if_neg c13] at H
              exact absurd H (by simp)

-- NOT PRINTED: function 5 (trufflelaw10_TypedVal)

-- NOT PRINTED: function 61 (truffleref09_Each)

-- NOT PRINTED: function 31 (truffleref09_Slot)

-- NOT PRINTED: function 13 (truffleref09_Own)

-- NOT PRINTED: function 45 (api_Slot_45)

-- NOT PRINTED: function 23 (value_Get)

-- NOT PRINTED: function 6 (trufflelaw10_TypedWrong)

-- NOT PRINTED: function 32 (truffleref09_Vals)

-- NOT PRINTED: function 14 (truffleref09_Same)

/-! ### truffleref08_number: function 107 -/
def truffleref08_number.f (a0 : Int) : Option (Bool) := if a0 ≥ 1 then (if a0 ≤ 536870911 then (if a0 ≥ 19000 then (some (!(decide (a0 ≤ 19999)))) else (some (!false))) else (some false)) else (some false)
set_option maxHeartbeats 8000000 in
set_option maxRecDepth 100000 in
theorem truffleref08_number.calls (a0 : Int) (r : Bool) (w : World) (h : truffleref08_number.f a0 = some r) :
    Calls Tryz.prog 107 #[.int .i64 a0] w fun e w' => e = .returned (.bool r) ∧ Drawn0 w w' := by
  have H : (if a0 ≥ 1 then (if a0 ≤ 536870911 then (if a0 ≥ 19000 then (some (!(decide (a0 ≤ 19999)))) else (some (!false))) else (some false)) else (some false)) = some r := h
  clear h
  by_cases c2 : a0 ≥ 1
  · rw [if_pos c2] at H
    have c2b0 : decide (1 ≤ a0) = true := decide_eq_true c2
    clear c2
    by_cases c3 : a0 ≤ 536870911
    · rw [if_pos c3] at H
      have c3b0 : decide (a0 ≤ 536870911) = true := decide_eq_true c3
      clear c3
      by_cases c4 : a0 ≥ 19000
      · rw [if_pos c4] at H
        have c4b0 : decide (19000 ≤ a0) = true := decide_eq_true c4
        clear c4
        obtain rfl := Option.some.inj H
        go_enter Tryz.func107, Tryz.ntmps107
        go_wp2
        go_ret
        exact ⟨by first | rfl | (simp; done) | (simp [*]; done), by repeat (first | exact Drawn0.refl _ | apply Drawn0.step)⟩
      · rw [if_neg c4] at H
        have c4b0 : decide (19000 ≤ a0) = false := decide_eq_false c4
        clear c4
        obtain rfl := Option.some.inj H
        go_enter Tryz.func107, Tryz.ntmps107
        go_wp2
        go_ret
        exact ⟨by first | rfl | (simp; done) | (simp [*]; done), by repeat (first | exact Drawn0.refl _ | apply Drawn0.step)⟩
    · rw [if_neg c3] at H
      have c3b0 : decide (a0 ≤ 536870911) = false := decide_eq_false c3
      clear c3
      obtain rfl := Option.some.inj H
      go_enter Tryz.func107, Tryz.ntmps107
      go_wp2
      go_ret
      exact ⟨by first | rfl | (simp; done) | (simp [*]; done), by repeat (first | exact Drawn0.refl _ | apply Drawn0.step)⟩
  · rw [if_neg c2] at H
    have c2b0 : decide (1 ≤ a0) = false := decide_eq_false c2
    clear c2
    obtain rfl := Option.some.inj H
    go_enter Tryz.func107, Tryz.ntmps107
    go_wp2
    go_ret
    exact ⟨by first | rfl | (simp; done) | (simp [*]; done), by repeat (first | exact Drawn0.refl _ | apply Drawn0.step)⟩

/-! ### truffleref08_keyed: function 108 -/
def truffleref08_keyed.f (a0 : Int) : Option (Bool) := if a0 = 0 then (some true) else (if a0 = 1 then (some true) else (if a0 = 2 then (some true) else (if a0 = 3 then (some true) else (if a0 = 4 then (some true) else (if a0 = 5 then (some true) else (some (a0 == 7)))))))
set_option maxHeartbeats 8000000 in
set_option maxRecDepth 100000 in
theorem truffleref08_keyed.calls (a0 : Int) (r : Bool) (w : World) (h : truffleref08_keyed.f a0 = some r) :
    Calls Tryz.prog 108 #[.int .i64 a0] w fun e w' => e = .returned (.bool r) ∧ Drawn0 w w' := by
  have H : (if a0 = 0 then (some true) else (if a0 = 1 then (some true) else (if a0 = 2 then (some true) else (if a0 = 3 then (some true) else (if a0 = 4 then (some true) else (if a0 = 5 then (some true) else (some (a0 == 7)))))))) = some r := h
  clear h
  by_cases c2 : a0 = 0
  · rw [if_pos c2] at H
    have c2b0 : (a0 == 0) = true := beq_iff_eq.mpr c2
    have c2b1 : (a0 != 0) = false := bne_eq_false_iff_eq.mpr c2
    clear c2
    obtain rfl := Option.some.inj H
    go_enter Tryz.func108, Tryz.ntmps108
    go_wp2
    go_ret
    exact ⟨by first | rfl | (simp; done) | (simp [*]; done), by repeat (first | exact Drawn0.refl _ | apply Drawn0.step)⟩
  · rw [if_neg c2] at H
    have c2b0 : (a0 == 0) = false := beq_eq_false_iff_ne.mpr c2
    have c2b1 : (a0 != 0) = true := bne_iff_ne.mpr c2
    by_cases c3 : a0 = 1
    · rw [if_pos c3] at H
      have c3b0 : (a0 == 1) = true := beq_iff_eq.mpr c3
      have c3b1 : (a0 != 1) = false := bne_eq_false_iff_eq.mpr c3
      clear c3
      obtain rfl := Option.some.inj H
      go_enter Tryz.func108, Tryz.ntmps108
      go_wp2
      go_ret
      exact ⟨by first | rfl | (simp; done) | (simp [*]; done), by repeat (first | exact Drawn0.refl _ | apply Drawn0.step)⟩
    · rw [if_neg c3] at H
      have c3b0 : (a0 == 1) = false := beq_eq_false_iff_ne.mpr c3
      have c3b1 : (a0 != 1) = true := bne_iff_ne.mpr c3
      by_cases c4 : a0 = 2
      · rw [if_pos c4] at H
        have c4b0 : (a0 == 2) = true := beq_iff_eq.mpr c4
        have c4b1 : (a0 != 2) = false := bne_eq_false_iff_eq.mpr c4
        clear c4
        obtain rfl := Option.some.inj H
        go_enter Tryz.func108, Tryz.ntmps108
        go_wp2
        go_ret
        exact ⟨by first | rfl | (simp; done) | (simp [*]; done), by repeat (first | exact Drawn0.refl _ | apply Drawn0.step)⟩
      · rw [if_neg c4] at H
        have c4b0 : (a0 == 2) = false := beq_eq_false_iff_ne.mpr c4
        have c4b1 : (a0 != 2) = true := bne_iff_ne.mpr c4
        by_cases c5 : a0 = 3
        · rw [if_pos c5] at H
          have c5b0 : (a0 == 3) = true := beq_iff_eq.mpr c5
          have c5b1 : (a0 != 3) = false := bne_eq_false_iff_eq.mpr c5
          clear c5
          obtain rfl := Option.some.inj H
          go_enter Tryz.func108, Tryz.ntmps108
          go_wp2
          go_ret
          exact ⟨by first | rfl | (simp; done) | (simp [*]; done), by repeat (first | exact Drawn0.refl _ | apply Drawn0.step)⟩
        · rw [if_neg c5] at H
          have c5b0 : (a0 == 3) = false := beq_eq_false_iff_ne.mpr c5
          have c5b1 : (a0 != 3) = true := bne_iff_ne.mpr c5
          by_cases c6 : a0 = 4
          · rw [if_pos c6] at H
            have c6b0 : (a0 == 4) = true := beq_iff_eq.mpr c6
            have c6b1 : (a0 != 4) = false := bne_eq_false_iff_eq.mpr c6
            clear c6
            obtain rfl := Option.some.inj H
            go_enter Tryz.func108, Tryz.ntmps108
            go_wp2
            go_ret
            exact ⟨by first | rfl | (simp; done) | (simp [*]; done), by repeat (first | exact Drawn0.refl _ | apply Drawn0.step)⟩
          · rw [if_neg c6] at H
            have c6b0 : (a0 == 4) = false := beq_eq_false_iff_ne.mpr c6
            have c6b1 : (a0 != 4) = true := bne_iff_ne.mpr c6
            by_cases c7 : a0 = 5
            · rw [if_pos c7] at H
              have c7b0 : (a0 == 5) = true := beq_iff_eq.mpr c7
              have c7b1 : (a0 != 5) = false := bne_eq_false_iff_eq.mpr c7
              clear c7
              obtain rfl := Option.some.inj H
              go_enter Tryz.func108, Tryz.ntmps108
              go_wp2
              go_ret
              exact ⟨by first | rfl | (simp; done) | (simp [*]; done), by repeat (first | exact Drawn0.refl _ | apply Drawn0.step)⟩
            · rw [if_neg c7] at H
              have c7b0 : (a0 == 5) = false := beq_eq_false_iff_ne.mpr c7
              have c7b1 : (a0 != 5) = true := bne_iff_ne.mpr c7
              obtain rfl := Option.some.inj H
              go_enter Tryz.func108, Tryz.ntmps108
              go_wp2
              go_ret
              exact ⟨by first | rfl | (simp; done) | (simp [*]; done), by repeat (first | exact Drawn0.refl _ | apply Drawn0.step)⟩

end Go.Proofs.YthikfifoomfjgaaGreat.PA
