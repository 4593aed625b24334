-- PRINTED by print.py (a twelfth state) out of the translation. Not trusted: Lean checks it.
import Derived.Test.YthikfifoomfjgaaGreatPAx0
import Derived.Test.YthikfifoomfjgaaGreatPAx1
namespace Go.Proofs.YthikfifoomfjgaaGreat.PA
open Go.RowKit Go.Proofs.YthikfifoomfjgaaGreatW.PrintWords Go.Proofs.YthikfifoomfjgaaGreatW.PrintLast
set_option linter.unusedVariables false
set_option linter.unusedSimpArgs false

/-! ### table_field: function 102 -/
mutual
def table_field.j0 : Nat → Bool → Int → ByteArray → Int → Int → Bool → Int → Int → Option (Bool)
  | 0, _, _, _, _, _, _, _, _ => none
  | k + 1, x5, x105000, x105001, x105002, x105003, x105004, x105005, x105006 => if x105004 = true then (table_field.j1 k x5 true x105000 x105001 x105002 x105003 x105004 x105005 x105006) else (table_field.j1 k x5 (x105005 != (-1)) x105000 x105001 x105002 x105003 x105004 x105005 x105006)
def table_field.j1 : Nat → Bool → Bool → Int → ByteArray → Int → Int → Bool → Int → Int → Option (Bool)
  | 0, _, _, _, _, _, _, _, _, _ => none
  | k + 1, x5, x6, x105000, x105001, x105002, x105003, x105004, x105005, x105006 => if x105005 = (-1) then ((table_number.f x105000).bind fun t107 => (if t107 = true then ((table_in.f x105002 0 9).bind fun t108 => (if t108 = true then (if x5 = true then ((table_in.f x105006 0 30).bind fun t109 => (if t109 = true then (if x105006 = 0 then (some true) else (some (!x6))) else (some false))) else (some false)) else (some false))) else (some false))) else ((table_keyed.f x105005).bind fun t110 => (if t110 = true then ((table_number.f x105000).bind fun t111 => (if t111 = true then ((table_in.f x105002 0 9).bind fun t112 => (if t112 = true then (if x5 = true then (if x105004 = true then (some false) else ((table_in.f x105006 0 30).bind fun t113 => (if t113 = true then (if x105006 = 0 then (some true) else (some (!x6))) else (some false)))) else (some false)) else (some false))) else (some false))) else ((table_number.f x105000).bind fun t114 => (if t114 = true then ((table_in.f x105002 0 9).bind fun t115 => (if t115 = true then (if x5 = true then (some false) else (some false)) else (some false))) else (some false)))))
end
def table_field.f (k : Nat) (l0_0 : List (S58)) (l0_1 : List (S79)) (a1_0 : Int) (a1_1 : ByteArray) (a1_2 : Int) (a1_3 : Int) (a1_4 : Bool) (a1_5 : Int) (a1_6 : Int) : Option (Bool) := if a1_2 = 9 then ((table_in.f a1_3 0 (wrap64 ((l0_0.length : Int) - 1))).bind fun t105 => (table_field.j0 k t105 a1_0 a1_1 a1_2 a1_3 a1_4 a1_5 a1_6)) else (if a1_2 = 6 then ((table_in.f a1_3 0 (wrap64 ((l0_1.length : Int) - 1))).bind fun t106 => (table_field.j0 k t106 a1_0 a1_1 a1_2 a1_3 a1_4 a1_5 a1_6)) else (table_field.j0 k (a1_3 == 0) a1_0 a1_1 a1_2 a1_3 a1_4 a1_5 a1_6))
theorem table_field.mono_l : ∀ k, (∀ y0 y1 y2 y3 y4 y5 y6 y7, LeO (table_field.j0 k y0 y1 y2 y3 y4 y5 y6 y7) (table_field.j0 (k + 1) y0 y1 y2 y3 y4 y5 y6 y7)) ∧ (∀ y0 y1 y2 y3 y4 y5 y6 y7 y8, LeO (table_field.j1 k y0 y1 y2 y3 y4 y5 y6 y7 y8) (table_field.j1 (k + 1) y0 y1 y2 y3 y4 y5 y6 y7 y8))
  | 0 => ⟨fun _ _ _ _ _ _ _ _ r h => by simp [table_field.j0] at h, fun _ _ _ _ _ _ _ _ _ r h => by simp [table_field.j1] at h⟩
  | k + 1 => by
    obtain ⟨ih0, ih1⟩ := table_field.mono_l k
    refine ⟨?_, ?_⟩
    · intro y0 y1 y2 y3 y4 y5 y6 y7
      unfold table_field.j0
      repeat' first
      | (with_reducible exact ih0 _ _ _ _ _ _ _ _)
      | (with_reducible exact ih1 _ _ _ _ _ _ _ _ _)
      | (with_reducible exact LeO.refl _)
      | (with_reducible exact LeO.none _)
      | (with_reducible refine LeO.ite ?_ ?_)
      | (with_reducible refine LeO.bind ?_ (fun _ => ?_))
      | exact ih0 _ _ _ _ _ _ _ _
      | exact ih1 _ _ _ _ _ _ _ _ _
      | exact LeO.none _
      | refine LeO.ite ?_ ?_
      | refine LeO.bind ?_ (fun _ => ?_)
    · intro y0 y1 y2 y3 y4 y5 y6 y7 y8
      unfold table_field.j1
      repeat' first
      | (with_reducible exact ih0 _ _ _ _ _ _ _ _)
      | (with_reducible exact ih1 _ _ _ _ _ _ _ _ _)
      | (with_reducible exact LeO.refl _)
      | (with_reducible exact LeO.none _)
      | (with_reducible refine LeO.ite ?_ ?_)
      | (with_reducible refine LeO.bind ?_ (fun _ => ?_))
      | exact ih0 _ _ _ _ _ _ _ _
      | exact ih1 _ _ _ _ _ _ _ _ _
      | exact LeO.none _
      | refine LeO.ite ?_ ?_
      | refine LeO.bind ?_ (fun _ => ?_)
theorem table_field.mono : ∀ a0 a1 a2 a3 a4 a5 a6 a7 a8 k, LeO (table_field.f k a0 a1 a2 a3 a4 a5 a6 a7 a8) (table_field.f (k + 1) a0 a1 a2 a3 a4 a5 a6 a7 a8) := by
  intro a0 a1 a2 a3 a4 a5 a6 a7 a8 k
  obtain ⟨ih0, ih1⟩ := table_field.mono_l k
  unfold table_field.f
  repeat' first
      | (with_reducible exact ih0 _ _ _ _ _ _ _ _)
      | (with_reducible exact ih1 _ _ _ _ _ _ _ _ _)
      | (with_reducible exact LeO.refl _)
      | (with_reducible exact LeO.none _)
      | (with_reducible refine LeO.ite ?_ ?_)
      | (with_reducible refine LeO.bind ?_ (fun _ => ?_))
      | exact ih0 _ _ _ _ _ _ _ _
      | exact ih1 _ _ _ _ _ _ _ _ _
      | exact LeO.none _
      | refine LeO.ite ?_ ?_
      | refine LeO.bind ?_ (fun _ => ?_)
set_option maxHeartbeats 8000000 in
set_option maxRecDepth 100000 in
theorem table_field.calls (k : Nat) (A0_0 : Option Addr) (c0_0 : Nat) (l0_0 : List (S58)) (A0_1 : Option Addr) (c0_1 : Nat) (l0_1 : List (S79)) (a1_0 : Int) (a1_1 : ByteArray) (a1_2 : Int) (a1_3 : Int) (a1_4 : Bool) (a1_5 : Int) (a1_6 : Int) (r : Bool) (w : World) (hr0_0 : Kd.C k58 w A0_0 l0_0.length l0_0) (hc0_0 : l0_0.length ≤ c0_0) (hr0_1 : Kd.C k79 w A0_1 l0_1.length l0_1) (hc0_1 : l0_1.length ≤ c0_1) (h : table_field.f k l0_0 l0_1 a1_0 a1_1 a1_2 a1_3 a1_4 a1_5 a1_6 = some r) :
    Calls Tryz.prog 102 #[.agg #[.slice A0_0 l0_0.length c0_0, .slice A0_1 l0_1.length c0_1], .agg #[.int .i64 a1_0, .string a1_1, .int .i64 a1_2, .int .i64 a1_3, .bool a1_4, .int .i64 a1_5, .int .i64 a1_6]] w fun e w' => e = .returned (.bool r) ∧ Below w.heap.size w w' := by
  have hu25 := Tryz.underlying25
  have hu47 := Tryz.underlying47
  have HR0_0 := Aside0.mk hr0_0
  have HC0_0 := Aside0.mk hc0_0
  clear hr0_0 hc0_0
  have HR0_1 := Aside0.mk hr0_1
  have HC0_1 := Aside0.mk hc0_1
  clear hr0_1 hc0_1
  have HB := Aside0.mk (Below.refl w.heap.size w)
  have H : (if a1_2 = 9 then ((table_in.f a1_3 0 (wrap64 ((l0_0.length : Int) - 1))).bind fun t105 => (table_field.j0 k t105 a1_0 a1_1 a1_2 a1_3 a1_4 a1_5 a1_6)) else (if a1_2 = 6 then ((table_in.f a1_3 0 (wrap64 ((l0_1.length : Int) - 1))).bind fun t106 => (table_field.j0 k t106 a1_0 a1_1 a1_2 a1_3 a1_4 a1_5 a1_6)) else (table_field.j0 k (a1_3 == 0) a1_0 a1_1 a1_2 a1_3 a1_4 a1_5 a1_6))) = some r := h
  clear h
  have HC3 := Aside0.mk H
  clear H
  go_enter Tryz.func102, Tryz.ntmps102
  go_upto_block 0 with (first | ((with_reducible refine gate_dst (N := 2) rfl ?_); refine box_event ?hg (N := 2) ?hd (cs := #[.slice A0_0 l0_0.length c0_0, .slice A0_1 l0_1.length c0_1]) (t := 25) ?hr ?_; (case hd => rfl); (case hg => rfl); (case hr => first | (go_simp; done) | (go_simp; rfl)); intro gb103 hg w4 hbox hb; have n0_ := Aside0.mk (below_step (by repeat (first | (with_reducible first | exact HB.out | apply below_alloc | apply pw_below_drewN | apply below_drew1) | exact HB.out)) hb); have n1_ := Aside0.mk (hbox); have n2_ := Aside0.mk ((by rw [hg]; exact (below_size (by repeat (first | (with_reducible first | exact HB.out | apply below_alloc | apply pw_below_drewN | apply below_drew1) | exact HB.out))) : w.heap.size ≤ gb103)); have n3_ := Aside0.mk ((by rw [hg]; exact (below_size (by repeat (first | (with_reducible first | exact HB.out | apply below_alloc | apply pw_below_drewN | apply below_drew1) | exact HB.out))) : w.heap.size ≤ gb103)); clear HB; have HB := n0_; have BK103 := n1_; have GW103 := n2_; have GE103 := n3_; clear n0_ n1_ n2_ n3_; clear hb hbox hg) | ((with_reducible refine gate_dst (N := 3) rfl ?_); refine box_event ?hg (N := 3) ?hd (cs := #[.int .i64 a1_0, .string a1_1, .int .i64 a1_2, .int .i64 a1_3, .bool a1_4, .int .i64 a1_5, .int .i64 a1_6]) (t := 47) ?hr ?_; (case hd => rfl); (case hg => rfl); (case hr => first | (go_simp; done) | (go_simp; rfl)); intro gb104 hg w5 hbox hb; have n0_ := Aside0.mk (blk_below (g := gb103) (o := .cells #[.slice A0_0 l0_0.length c0_0, .slice A0_1 l0_1.length c0_1] 25 (0, 0)) (by (with_reducible repeat (first | refine blk_drewN ?_ _ | refine blk_drew ?_ | refine blk_alloc ?_ _)); exact BK103.out) hb); have n1_ := Aside0.mk (below_step (by repeat (first | (with_reducible first | exact HB.out | apply below_alloc | apply pw_below_drewN | apply below_drew1 | refine below_set ?_ GE103.out) | exact HB.out)) hb); have n2_ := Aside0.mk (hbox); have n3_ := Aside0.mk ((by rw [hg]; exact (below_size (by repeat (first | (with_reducible first | exact HB.out | apply below_alloc | apply pw_below_drewN | apply below_drew1 | refine below_set ?_ GE103.out) | exact HB.out))) : w.heap.size ≤ gb104)); have n4_ := Aside0.mk ((by rw [hg]; exact (below_size (by repeat (first | (with_reducible first | exact HB.out | apply below_alloc | apply pw_below_drewN | apply below_drew1 | refine below_set ?_ GE103.out) | exact HB.out))) : w.heap.size ≤ gb104)); have n5_ := Aside0.mk ((by rw [hg]; exact Nat.ne_of_lt (blk_lt (g := gb103) (o := .cells #[.slice A0_0 l0_0.length c0_0, .slice A0_1 l0_1.length c0_1] 25 (0, 0)) (by (with_reducible repeat (first | refine blk_drewN ?_ _ | refine blk_drew ?_ | refine blk_alloc ?_ _)); exact BK103.out)) : gb103 ≠ gb104)); have n6_ := Aside0.mk ((by rw [hg]; exact Nat.ne_of_gt (blk_lt (g := gb103) (o := .cells #[.slice A0_0 l0_0.length c0_0, .slice A0_1 l0_1.length c0_1] 25 (0, 0)) (by (with_reducible repeat (first | refine blk_drewN ?_ _ | refine blk_drew ?_ | refine blk_alloc ?_ _)); exact BK103.out)) : gb104 ≠ gb103)); clear BK103; clear HB; have BK103 := n0_; have HB := n1_; have BK104 := n2_; have GW104 := n3_; have GE104 := n4_; have NB103_104 := n5_; have NB104_103 := n6_; clear n0_ n1_ n2_ n3_ n4_ n5_ n6_; clear hb hbox hg; have hnb6 := NB104_103.out; have hnc6 := NB103_104.out; have hcz7_0 : w5.cell? ⟨gb104, 0, none⟩ = some (.int .i64 a1_0) := (blk_cell BK104.out 0).trans rfl; have hcz7_1 : w5.cell? ⟨gb104, 1, none⟩ = some (.string a1_1) := (blk_cell BK104.out 1).trans rfl; have hcz7_2 : w5.cell? ⟨gb104, 2, none⟩ = some (.int .i64 a1_2) := (blk_cell BK104.out 2).trans rfl; have hcz7_3 : w5.cell? ⟨gb104, 3, none⟩ = some (.int .i64 a1_3) := (blk_cell BK104.out 3).trans rfl; have hcz7_4 : w5.cell? ⟨gb104, 4, none⟩ = some (.bool a1_4) := (blk_cell BK104.out 4).trans rfl; have hcz7_5 : w5.cell? ⟨gb104, 5, none⟩ = some (.int .i64 a1_5) := (blk_cell BK104.out 5).trans rfl; have hcz7_6 : w5.cell? ⟨gb104, 6, none⟩ = some (.int .i64 a1_6) := (blk_cell BK104.out 6).trans rfl; have hfz7_0 := blk_frozen BK104.out 0; have hfz7_1 := blk_frozen BK104.out 1; have hfz7_2 := blk_frozen BK104.out 2; have hfz7_3 := blk_frozen BK104.out 3; have hfz7_4 := blk_frozen BK104.out 4; have hfz7_5 := blk_frozen BK104.out 5; have hfz7_6 := blk_frozen BK104.out 6))
  (try simp only [Act.put, List.setIfInBounds_toArray, List.set_cons_zero, List.set_cons_succ])
  go_cut [5] (fun v5 wc => ∃ (kq : Nat) (x5_2 : Bool), v5 = .bool x5_2 ∧ Aside0 (table_field.j0 kq x5_2 a1_0 a1_1 a1_2 a1_3 a1_4 a1_5 a1_6 = some r) ∧ Aside0 (kq ≤ k) ∧ Aside0 (wc.heap[gb103]? = some (.cells #[(.slice A0_0 l0_0.length c0_0), (.slice A0_1 l0_1.length c0_1)] 25 (0, 0))) ∧ Aside0 (wc.heap[gb104]? = some (.cells #[.int .i64 a1_0, .string a1_1, .int .i64 a1_2, .int .i64 a1_3, .bool a1_4, .int .i64 a1_5, .int .i64 a1_6] 47 (0, 0))) ∧ Aside0 (Below w.heap.size w wc))
  case first =>
    have H := HC3.out
    clear HC3
    by_cases c8 : a1_2 = 9
    · rw [if_pos c8] at H
      have c8b0 : (a1_2 == 9) = true := beq_iff_eq.mpr c8
      have c8b1 : (a1_2 != 9) = false := bne_eq_false_iff_eq.mpr c8
      clear c8
      (first | rw [c8b0] | (simp only [i64_w, i32_w]; rw [c8b0]) | skip)
      replace H := Option.bind_eq_some_iff.mp H
      obtain ⟨t105, A90, H⟩ := H
      replace H : (table_field.j0 k t105 a1_0 a1_1 a1_2 a1_3 a1_4 a1_5 a1_6) = some r := H
      have A9 := Aside0.mk A90
      clear A90
      have H' := Aside0.mk H
      clear H
      have hnb10 := NB104_103.out
      have hnc10 := NB103_104.out
      have hcz11_0 : w5.cell? ⟨gb104, 0, none⟩ = some (.int .i64 a1_0) := (blk_cell BK104.out 0).trans rfl
      have hcz11_1 : w5.cell? ⟨gb104, 1, none⟩ = some (.string a1_1) := (blk_cell BK104.out 1).trans rfl
      have hcz11_2 : w5.cell? ⟨gb104, 2, none⟩ = some (.int .i64 a1_2) := (blk_cell BK104.out 2).trans rfl
      have hcz11_3 : w5.cell? ⟨gb104, 3, none⟩ = some (.int .i64 a1_3) := (blk_cell BK104.out 3).trans rfl
      have hcz11_4 : w5.cell? ⟨gb104, 4, none⟩ = some (.bool a1_4) := (blk_cell BK104.out 4).trans rfl
      have hcz11_5 : w5.cell? ⟨gb104, 5, none⟩ = some (.int .i64 a1_5) := (blk_cell BK104.out 5).trans rfl
      have hcz11_6 : w5.cell? ⟨gb104, 6, none⟩ = some (.int .i64 a1_6) := (blk_cell BK104.out 6).trans rfl
      have hfz11_0 := blk_frozen BK104.out 0
      have hfz11_1 := blk_frozen BK104.out 1
      have hfz11_2 := blk_frozen BK104.out 2
      have hfz11_3 := blk_frozen BK104.out 3
      have hfz11_4 := blk_frozen BK104.out 4
      have hfz11_5 := blk_frozen BK104.out 5
      have hfz11_6 := blk_frozen BK104.out 6
      have hcz12_0 : w5.cell? ⟨gb103, 0, none⟩ = some (.slice A0_0 l0_0.length c0_0) := (blk_cell BK103.out 0).trans rfl
      have hcz12_1 : w5.cell? ⟨gb103, 1, none⟩ = some (.slice A0_1 l0_1.length c0_1) := (blk_cell BK103.out 1).trans rfl
      have hfz12_0 := blk_frozen BK103.out 0
      have hfz12_1 := blk_frozen BK103.out 1
      go_wp2_with (first | ((with_reducible refine gate_callee (f := 67) rfl ?_); refine goesL_ (some 21) rfl rfl Tryz.func67 (by kernel_rfl) rfl #[.int .i64 a1_3, .int .i64 0, .int .i64 (wrap64 ((l0_0.length : Int) - 1))] rfl (by (try simp only [List.map_toArray, List.map_cons, List.map_nil]); first | done | rfl | (simp only [List.length_drop, List.length_take]; rfl)) ?_; (with_reducible refine (table_in.calls a1_3 0 (wrap64 ((l0_0.length : Int) - 1)) t105 _ A9.out).mono ?_); rintro e w' ⟨rfl, ⟨nd, rfl⟩⟩; refine ⟨_, rfl, ?_⟩))
      go_meet
      case rel => exact ⟨_, (t105), (by first | rfl | (simp; done) | (simp [*]; done)), H', ⟨by first | omega | exact Nat.le_refl _⟩, ⟨by (with_reducible repeat (first | refine blk_drewN ?_ _ | refine blk_drew ?_ | refine blk_alloc ?_ _)); exact BK103.out⟩, ⟨by (with_reducible repeat (first | refine blk_drewN ?_ _ | refine blk_drew ?_ | refine blk_alloc ?_ _)); exact BK104.out⟩, ⟨by repeat (first | (with_reducible first | exact HB.out | apply below_alloc | apply pw_below_drewN | apply below_drew1 | refine below_set ?_ GE103.out | refine below_set ?_ GE104.out) | exact HB.out)⟩⟩
    · rw [if_neg c8] at H
      have c8b0 : (a1_2 == 9) = false := beq_eq_false_iff_ne.mpr c8
      have c8b1 : (a1_2 != 9) = true := bne_iff_ne.mpr c8
      (first | rw [c8b0] | (simp only [i64_w, i32_w]; rw [c8b0]) | skip)
      by_cases c13 : a1_2 = 6
      · rw [if_pos c13] at H
        have c13b0 : (a1_2 == 6) = true := beq_iff_eq.mpr c13
        have c13b1 : (a1_2 != 6) = false := bne_eq_false_iff_eq.mpr c13
        clear c13
        replace H := Option.bind_eq_some_iff.mp H
        obtain ⟨t106, A140, H⟩ := H
        replace H : (table_field.j0 k t106 a1_0 a1_1 a1_2 a1_3 a1_4 a1_5 a1_6) = some r := H
        have A14 := Aside0.mk A140
        clear A140
        have H' := Aside0.mk H
        clear H
        have hnb15 := NB104_103.out
        have hnc15 := NB103_104.out
        have hcz16_0 : w5.cell? ⟨gb104, 0, none⟩ = some (.int .i64 a1_0) := (blk_cell BK104.out 0).trans rfl
        have hcz16_1 : w5.cell? ⟨gb104, 1, none⟩ = some (.string a1_1) := (blk_cell BK104.out 1).trans rfl
        have hcz16_2 : w5.cell? ⟨gb104, 2, none⟩ = some (.int .i64 a1_2) := (blk_cell BK104.out 2).trans rfl
        have hcz16_3 : w5.cell? ⟨gb104, 3, none⟩ = some (.int .i64 a1_3) := (blk_cell BK104.out 3).trans rfl
        have hcz16_4 : w5.cell? ⟨gb104, 4, none⟩ = some (.bool a1_4) := (blk_cell BK104.out 4).trans rfl
        have hcz16_5 : w5.cell? ⟨gb104, 5, none⟩ = some (.int .i64 a1_5) := (blk_cell BK104.out 5).trans rfl
        have hcz16_6 : w5.cell? ⟨gb104, 6, none⟩ = some (.int .i64 a1_6) := (blk_cell BK104.out 6).trans rfl
        have hfz16_0 := blk_frozen BK104.out 0
        have hfz16_1 := blk_frozen BK104.out 1
        have hfz16_2 := blk_frozen BK104.out 2
        have hfz16_3 := blk_frozen BK104.out 3
        have hfz16_4 := blk_frozen BK104.out 4
        have hfz16_5 := blk_frozen BK104.out 5
        have hfz16_6 := blk_frozen BK104.out 6
        have hcz17_0 : w5.cell? ⟨gb103, 0, none⟩ = some (.slice A0_0 l0_0.length c0_0) := (blk_cell BK103.out 0).trans rfl
        have hcz17_1 : w5.cell? ⟨gb103, 1, none⟩ = some (.slice A0_1 l0_1.length c0_1) := (blk_cell BK103.out 1).trans rfl
        have hfz17_0 := blk_frozen BK103.out 0
        have hfz17_1 := blk_frozen BK103.out 1
        go_wp2_with (first | ((with_reducible refine gate_callee (f := 67) rfl ?_); refine goesL_ (some 30) rfl rfl Tryz.func67 (by kernel_rfl) rfl #[.int .i64 a1_3, .int .i64 0, .int .i64 (wrap64 ((l0_1.length : Int) - 1))] rfl (by (try simp only [List.map_toArray, List.map_cons, List.map_nil]); first | done | rfl | (simp only [List.length_drop, List.length_take]; rfl)) ?_; (with_reducible refine (table_in.calls a1_3 0 (wrap64 ((l0_1.length : Int) - 1)) t106 _ A14.out).mono ?_); rintro e w' ⟨rfl, ⟨nd, rfl⟩⟩; refine ⟨_, rfl, ?_⟩))
        go_meet
        case rel => exact ⟨_, (t106), (by first | rfl | (simp; done) | (simp [*]; done)), H', ⟨by first | omega | exact Nat.le_refl _⟩, ⟨by (with_reducible repeat (first | refine blk_drewN ?_ _ | refine blk_drew ?_ | refine blk_alloc ?_ _)); exact BK103.out⟩, ⟨by (with_reducible repeat (first | refine blk_drewN ?_ _ | refine blk_drew ?_ | refine blk_alloc ?_ _)); exact BK104.out⟩, ⟨by repeat (first | (with_reducible first | exact HB.out | apply below_alloc | apply pw_below_drewN | apply below_drew1 | refine below_set ?_ GE103.out | refine below_set ?_ GE104.out) | exact HB.out)⟩⟩
      · rw [if_neg c13] at H
        have c13b0 : (a1_2 == 6) = false := beq_eq_false_iff_ne.mpr c13
        have c13b1 : (a1_2 != 6) = true := bne_iff_ne.mpr c13
        have H' := Aside0.mk H
        clear H
        go_wp2
        go_meet
        case rel => exact ⟨_, ((a1_3 == 0)), (by first | rfl | (simp; done) | (simp [*]; done)), H', ⟨by first | omega | exact Nat.le_refl _⟩, ⟨by (with_reducible repeat (first | refine blk_drewN ?_ _ | refine blk_drew ?_ | refine blk_alloc ?_ _)); exact BK103.out⟩, ⟨by (with_reducible repeat (first | refine blk_drewN ?_ _ | refine blk_drew ?_ | refine blk_alloc ?_ _)); exact BK104.out⟩, ⟨by repeat (first | (with_reducible first | exact HB.out | apply below_alloc | apply pw_below_drewN | apply below_drew1 | refine below_set ?_ GE103.out | refine below_set ?_ GE104.out) | exact HB.out)⟩⟩
  case rest =>
    clear HC3
    try clear c1
    try clear p2
    try clear c6
    try clear p6
    try clear c8
    try clear c8b0
    try clear c8b1
    try clear c10
    try clear c13
    try clear c13b0
    try clear c13b1
    try clear c15
    try clear hcz11_0
    try clear hcz11_1
    try clear hcz11_2
    try clear hcz11_3
    try clear hcz11_4
    try clear hcz11_5
    try clear hcz11_6
    try clear hcz12_0
    try clear hcz12_1
    try clear hcz16_0
    try clear hcz16_1
    try clear hcz16_2
    try clear hcz16_3
    try clear hcz16_4
    try clear hcz16_5
    try clear hcz16_6
    try clear hcz17_0
    try clear hcz17_1
    try clear hcz7_0
    try clear hcz7_1
    try clear hcz7_2
    try clear hcz7_3
    try clear hcz7_4
    try clear hcz7_5
    try clear hcz7_6
    try clear hfz11_0
    try clear hfz11_1
    try clear hfz11_2
    try clear hfz11_3
    try clear hfz11_4
    try clear hfz11_5
    try clear hfz11_6
    try clear hfz12_0
    try clear hfz12_1
    try clear hfz16_0
    try clear hfz16_1
    try clear hfz16_2
    try clear hfz16_3
    try clear hfz16_4
    try clear hfz16_5
    try clear hfz16_6
    try clear hfz17_0
    try clear hfz17_1
    try clear hfz7_0
    try clear hfz7_1
    try clear hfz7_2
    try clear hfz7_3
    try clear hfz7_4
    try clear hfz7_5
    try clear hfz7_6
    obtain ⟨kq, x5_2, rfl, HA, HJ2, BK103, BK104, HB⟩ := hcut
    cases kq with
    | zero => exact absurd HA.out (by simp [table_field.j0])
    | succ kj2 =>
      have H := HA.out
      clear HA
      simp only [table_field.j0] at H
      have HC18 := Aside0.mk H
      clear H
      go_upto_region 7 with (fail)
      go_cut [6] (fun v6 wc => ∃ (kq : Nat) (x6_17 : Bool), v6 = .bool x6_17 ∧ Aside0 (table_field.j1 kq x5_2 x6_17 a1_0 a1_1 a1_2 a1_3 a1_4 a1_5 a1_6 = some r) ∧ Aside0 (kq ≤ kj2) ∧ Aside0 (wc.heap[gb103]? = some (.cells #[(.slice A0_0 l0_0.length c0_0), (.slice A0_1 l0_1.length c0_1)] 25 (0, 0))) ∧ Aside0 (wc.heap[gb104]? = some (.cells #[.int .i64 a1_0, .string a1_1, .int .i64 a1_2, .int .i64 a1_3, .bool a1_4, .int .i64 a1_5, .int .i64 a1_6] 47 (0, 0))) ∧ Aside0 (Below w.heap.size w wc))
      case first =>
        have H := HC18.out
        clear HC18
        by_cases c19 : a1_4 = true
        · subst c19
          have H1 : (table_field.j1 kj2 x5_2 true a1_0 a1_1 a1_2 a1_3 true a1_5 a1_6) = some r := by rw [if_pos rfl] at H; exact H
          clear H
          have H := H1
          clear H1
          have H' := Aside0.mk H
          clear H
          have hnb20 := NB104_103.out
          have hnc20 := NB103_104.out
          have hcz21_0 : wc.cell? ⟨gb104, 0, none⟩ = some (.int .i64 a1_0) := (blk_cell BK104.out 0).trans rfl
          have hcz21_1 : wc.cell? ⟨gb104, 1, none⟩ = some (.string a1_1) := (blk_cell BK104.out 1).trans rfl
          have hcz21_2 : wc.cell? ⟨gb104, 2, none⟩ = some (.int .i64 a1_2) := (blk_cell BK104.out 2).trans rfl
          have hcz21_3 : wc.cell? ⟨gb104, 3, none⟩ = some (.int .i64 a1_3) := (blk_cell BK104.out 3).trans rfl
          have hcz21_4 : wc.cell? ⟨gb104, 4, none⟩ = some (.bool true) := (blk_cell BK104.out 4).trans rfl
          have hcz21_5 : wc.cell? ⟨gb104, 5, none⟩ = some (.int .i64 a1_5) := (blk_cell BK104.out 5).trans rfl
          have hcz21_6 : wc.cell? ⟨gb104, 6, none⟩ = some (.int .i64 a1_6) := (blk_cell BK104.out 6).trans rfl
          have hfz21_0 := blk_frozen BK104.out 0
          have hfz21_1 := blk_frozen BK104.out 1
          have hfz21_2 := blk_frozen BK104.out 2
          have hfz21_3 := blk_frozen BK104.out 3
          have hfz21_4 := blk_frozen BK104.out 4
          have hfz21_5 := blk_frozen BK104.out 5
          have hfz21_6 := blk_frozen BK104.out 6
          go_wp2
          go_meet
          case rel => exact ⟨_, (true), (by first | rfl | (simp; done) | (simp [*]; done)), H', ⟨by have := HJ2.out; first | omega | exact Nat.le_refl _⟩, ⟨by (with_reducible repeat (first | refine blk_drewN ?_ _ | refine blk_drew ?_ | refine blk_alloc ?_ _)); exact BK103.out⟩, ⟨by (with_reducible repeat (first | refine blk_drewN ?_ _ | refine blk_drew ?_ | refine blk_alloc ?_ _)); exact BK104.out⟩, ⟨by repeat (first | (with_reducible first | exact HB.out | apply below_alloc | apply pw_below_drewN | apply below_drew1 | refine below_set ?_ GE103.out | refine below_set ?_ GE104.out) | exact HB.out)⟩⟩
        · replace c19 := Bool.eq_false_iff.mpr c19
          subst c19
          have H1 : (table_field.j1 kj2 x5_2 (a1_5 != (-1)) a1_0 a1_1 a1_2 a1_3 false a1_5 a1_6) = some r := by rw [if_neg (show ¬ (false = true) by decide)] at H; exact H
          clear H
          have H := H1
          clear H1
          have H' := Aside0.mk H
          clear H
          have hnb22 := NB104_103.out
          have hnc22 := NB103_104.out
          have hcz23_0 : wc.cell? ⟨gb104, 0, none⟩ = some (.int .i64 a1_0) := (blk_cell BK104.out 0).trans rfl
          have hcz23_1 : wc.cell? ⟨gb104, 1, none⟩ = some (.string a1_1) := (blk_cell BK104.out 1).trans rfl
          have hcz23_2 : wc.cell? ⟨gb104, 2, none⟩ = some (.int .i64 a1_2) := (blk_cell BK104.out 2).trans rfl
          have hcz23_3 : wc.cell? ⟨gb104, 3, none⟩ = some (.int .i64 a1_3) := (blk_cell BK104.out 3).trans rfl
          have hcz23_4 : wc.cell? ⟨gb104, 4, none⟩ = some (.bool false) := (blk_cell BK104.out 4).trans rfl
          have hcz23_5 : wc.cell? ⟨gb104, 5, none⟩ = some (.int .i64 a1_5) := (blk_cell BK104.out 5).trans rfl
          have hcz23_6 : wc.cell? ⟨gb104, 6, none⟩ = some (.int .i64 a1_6) := (blk_cell BK104.out 6).trans rfl
          have hfz23_0 := blk_frozen BK104.out 0
          have hfz23_1 := blk_frozen BK104.out 1
          have hfz23_2 := blk_frozen BK104.out 2
          have hfz23_3 := blk_frozen BK104.out 3
          have hfz23_4 := blk_frozen BK104.out 4
          have hfz23_5 := blk_frozen BK104.out 5
          have hfz23_6 := blk_frozen BK104.out 6
          go_wp2
          go_meet
          case rel => exact ⟨_, ((a1_5 != (-1))), (by first | rfl | (simp; done) | (simp [*]; done)), H', ⟨by have := HJ2.out; first | omega | exact Nat.le_refl _⟩, ⟨by (with_reducible repeat (first | refine blk_drewN ?_ _ | refine blk_drew ?_ | refine blk_alloc ?_ _)); exact BK103.out⟩, ⟨by (with_reducible repeat (first | refine blk_drewN ?_ _ | refine blk_drew ?_ | refine blk_alloc ?_ _)); exact BK104.out⟩, ⟨by repeat (first | (with_reducible first | exact HB.out | apply below_alloc | apply pw_below_drewN | apply below_drew1 | refine below_set ?_ GE103.out | refine below_set ?_ GE104.out) | exact HB.out)⟩⟩
      case rest =>
        clear HC18
        try clear c1
        try clear c2
        try clear p2
        try clear c6
        try clear p6
        try clear c8
        try clear c8b0
        try clear c8b1
        try clear c10
        try clear c13
        try clear c13b0
        try clear c13b1
        try clear c15
        try clear c19
        try clear c20
        try clear c22
        try clear hcz11_0
        try clear hcz11_1
        try clear hcz11_2
        try clear hcz11_3
        try clear hcz11_4
        try clear hcz11_5
        try clear hcz11_6
        try clear hcz12_0
        try clear hcz12_1
        try clear hcz16_0
        try clear hcz16_1
        try clear hcz16_2
        try clear hcz16_3
        try clear hcz16_4
        try clear hcz16_5
        try clear hcz16_6
        try clear hcz17_0
        try clear hcz17_1
        try clear hcz21_0
        try clear hcz21_1
        try clear hcz21_2
        try clear hcz21_3
        try clear hcz21_4
        try clear hcz21_5
        try clear hcz21_6
        try clear hcz23_0
        try clear hcz23_1
        try clear hcz23_2
        try clear hcz23_3
        try clear hcz23_4
        try clear hcz23_5
        try clear hcz23_6
        try clear hcz7_0
        try clear hcz7_1
        try clear hcz7_2
        try clear hcz7_3
        try clear hcz7_4
        try clear hcz7_5
        try clear hcz7_6
        try clear hfz11_0
        try clear hfz11_1
        try clear hfz11_2
        try clear hfz11_3
        try clear hfz11_4
        try clear hfz11_5
        try clear hfz11_6
        try clear hfz12_0
        try clear hfz12_1
        try clear hfz16_0
        try clear hfz16_1
        try clear hfz16_2
        try clear hfz16_3
        try clear hfz16_4
        try clear hfz16_5
        try clear hfz16_6
        try clear hfz17_0
        try clear hfz17_1
        try clear hfz21_0
        try clear hfz21_1
        try clear hfz21_2
        try clear hfz21_3
        try clear hfz21_4
        try clear hfz21_5
        try clear hfz21_6
        try clear hfz23_0
        try clear hfz23_1
        try clear hfz23_2
        try clear hfz23_3
        try clear hfz23_4
        try clear hfz23_5
        try clear hfz23_6
        try clear hfz7_0
        try clear hfz7_1
        try clear hfz7_2
        try clear hfz7_3
        try clear hfz7_4
        try clear hfz7_5
        try clear hfz7_6
        try clear p2
        try clear p6
        obtain ⟨kq, x6_17, rfl, HA, HJ17, BK103, BK104, HB⟩ := hcut
        cases kq with
        | zero => exact absurd HA.out (by simp [table_field.j1])
        | succ kj17 =>
          have H := HA.out
          clear HA
          simp only [table_field.j1] at H
          by_cases c24 : a1_5 = (-1)
          · rw [if_pos c24] at H
            have c24b0 : (a1_5 == (-1)) = true := beq_iff_eq.mpr c24
            have c24b1 : (a1_5 != (-1)) = false := bne_eq_false_iff_eq.mpr c24
            clear c24
            replace H := Option.bind_eq_some_iff.mp H
            obtain ⟨t107, A250, H⟩ := H
            replace H : (if t107 = true then ((table_in.f a1_2 0 9).bind fun t108 => (if t108 = true then (if x5_2 = true then ((table_in.f a1_6 0 30).bind fun t109 => (if t109 = true then (if a1_6 = 0 then (some true) else (some (!x6_17))) else (some false))) else (some false)) else (some false))) else (some false)) = some r := H
            have A25 := Aside0.mk A250
            clear A250
            by_cases c26 : t107 = true
            · subst c26
              have H1 : ((table_in.f a1_2 0 9).bind fun t108 => (if t108 = true then (if x5_2 = true then ((table_in.f a1_6 0 30).bind fun t109 => (if t109 = true then (if a1_6 = 0 then (some true) else (some (!x6_17))) else (some false))) else (some false)) else (some false))) = some r := by rw [if_pos rfl] at H; exact H
              clear H
              have H := H1
              clear H1
              replace H := Option.bind_eq_some_iff.mp H
              obtain ⟨t108, A270, H⟩ := H
              replace H : (if t108 = true then (if x5_2 = true then ((table_in.f a1_6 0 30).bind fun t109 => (if t109 = true then (if a1_6 = 0 then (some true) else (some (!x6_17))) else (some false))) else (some false)) else (some false)) = some r := H
              have A27 := Aside0.mk A270
              clear A270
              by_cases c28 : t108 = true
              · subst c28
                have H1 : (if x5_2 = true then ((table_in.f a1_6 0 30).bind fun t109 => (if t109 = true then (if a1_6 = 0 then (some true) else (some (!x6_17))) else (some false))) else (some false)) = some r := by rw [if_pos rfl] at H; exact H
                clear H
                have H := H1
                clear H1
                by_cases c29 : x5_2 = true
                · subst c29
                  have H1 : ((table_in.f a1_6 0 30).bind fun t109 => (if t109 = true then (if a1_6 = 0 then (some true) else (some (!x6_17))) else (some false))) = some r := by rw [if_pos rfl] at H; exact H
                  clear H
                  have H := H1
                  clear H1
                  replace H := Option.bind_eq_some_iff.mp H
                  obtain ⟨t109, A300, H⟩ := H
                  replace H : (if t109 = true then (if a1_6 = 0 then (some true) else (some (!x6_17))) else (some false)) = some r := H
                  have A30 := Aside0.mk A300
                  clear A300
                  by_cases c31 : t109 = true
                  · subst c31
                    have H1 : (if a1_6 = 0 then (some true) else (some (!x6_17))) = some r := by rw [if_pos rfl] at H; exact H
                    clear H
                    have H := H1
                    clear H1
                    by_cases c32 : a1_6 = 0
                    · rw [if_pos c32] at H
                      have c32b0 : (a1_6 == 0) = true := beq_iff_eq.mpr c32
                      have c32b1 : (a1_6 != 0) = false := bne_eq_false_iff_eq.mpr c32
                      clear c32
                      obtain rfl := Option.some.inj H
                      have hnb33 := NB104_103.out
                      have hnc33 := NB103_104.out
                      have hcz34_0 : wc.cell? ⟨gb104, 0, none⟩ = some (.int .i64 a1_0) := (blk_cell BK104.out 0).trans rfl
                      have hcz34_1 : wc.cell? ⟨gb104, 1, none⟩ = some (.string a1_1) := (blk_cell BK104.out 1).trans rfl
                      have hcz34_2 : wc.cell? ⟨gb104, 2, none⟩ = some (.int .i64 a1_2) := (blk_cell BK104.out 2).trans rfl
                      have hcz34_3 : wc.cell? ⟨gb104, 3, none⟩ = some (.int .i64 a1_3) := (blk_cell BK104.out 3).trans rfl
                      have hcz34_4 : wc.cell? ⟨gb104, 4, none⟩ = some (.bool a1_4) := (blk_cell BK104.out 4).trans rfl
                      have hcz34_5 : wc.cell? ⟨gb104, 5, none⟩ = some (.int .i64 a1_5) := (blk_cell BK104.out 5).trans rfl
                      have hcz34_6 : wc.cell? ⟨gb104, 6, none⟩ = some (.int .i64 a1_6) := (blk_cell BK104.out 6).trans rfl
                      have hfz34_0 := blk_frozen BK104.out 0
                      have hfz34_1 := blk_frozen BK104.out 1
                      have hfz34_2 := blk_frozen BK104.out 2
                      have hfz34_3 := blk_frozen BK104.out 3
                      have hfz34_4 := blk_frozen BK104.out 4
                      have hfz34_5 := blk_frozen BK104.out 5
                      have hfz34_6 := blk_frozen BK104.out 6
                      go_wp2_with (first | ((with_reducible refine gate_callee (f := 133) rfl ?_); refine goesL_ (some 53) rfl rfl Tryz.func133 (by kernel_rfl) rfl #[.int .i64 a1_0] rfl (by (try simp only [List.map_toArray, List.map_cons, List.map_nil]); first | done | rfl | (simp only [List.length_drop, List.length_take]; rfl)) ?_; (with_reducible refine (table_number.calls a1_0 true _ A25.out).mono ?_); rintro e w' ⟨rfl, ⟨nd, rfl⟩⟩; refine ⟨_, rfl, ?_⟩) | (go_at_call 67; (with_reducible refine (table_in.calls a1_2 0 9 true _ A27.out).mono ?_); rintro e w' ⟨rfl, ⟨nd, rfl⟩⟩) | (go_at_call 67; (with_reducible refine (table_in.calls a1_6 0 30 true _ A30.out).mono ?_); rintro e w' ⟨rfl, ⟨nd, rfl⟩⟩))
                      go_ret
                      exact ⟨by first | rfl | (simp [errW_none, errW_some] <;> rfl) | (simp [*, errW_none, errW_some] <;> rfl), by repeat (first | (with_reducible first | exact HB.out | apply below_alloc | apply pw_below_drewN | apply below_drew1 | refine below_set ?_ GE103.out | refine below_set ?_ GE104.out) | exact HB.out)⟩
                    · rw [if_neg c32] at H
                      have c32b0 : (a1_6 == 0) = false := beq_eq_false_iff_ne.mpr c32
                      have c32b1 : (a1_6 != 0) = true := bne_iff_ne.mpr c32
                      obtain rfl := Option.some.inj H
                      have hnb35 := NB104_103.out
                      have hnc35 := NB103_104.out
                      have hcz36_0 : wc.cell? ⟨gb104, 0, none⟩ = some (.int .i64 a1_0) := (blk_cell BK104.out 0).trans rfl
                      have hcz36_1 : wc.cell? ⟨gb104, 1, none⟩ = some (.string a1_1) := (blk_cell BK104.out 1).trans rfl
                      have hcz36_2 : wc.cell? ⟨gb104, 2, none⟩ = some (.int .i64 a1_2) := (blk_cell BK104.out 2).trans rfl
                      have hcz36_3 : wc.cell? ⟨gb104, 3, none⟩ = some (.int .i64 a1_3) := (blk_cell BK104.out 3).trans rfl
                      have hcz36_4 : wc.cell? ⟨gb104, 4, none⟩ = some (.bool a1_4) := (blk_cell BK104.out 4).trans rfl
                      have hcz36_5 : wc.cell? ⟨gb104, 5, none⟩ = some (.int .i64 a1_5) := (blk_cell BK104.out 5).trans rfl
                      have hcz36_6 : wc.cell? ⟨gb104, 6, none⟩ = some (.int .i64 a1_6) := (blk_cell BK104.out 6).trans rfl
                      have hfz36_0 := blk_frozen BK104.out 0
                      have hfz36_1 := blk_frozen BK104.out 1
                      have hfz36_2 := blk_frozen BK104.out 2
                      have hfz36_3 := blk_frozen BK104.out 3
                      have hfz36_4 := blk_frozen BK104.out 4
                      have hfz36_5 := blk_frozen BK104.out 5
                      have hfz36_6 := blk_frozen BK104.out 6
                      go_wp2_with (first | ((with_reducible refine gate_callee (f := 133) rfl ?_); refine goesL_ (some 53) rfl rfl Tryz.func133 (by kernel_rfl) rfl #[.int .i64 a1_0] rfl (by (try simp only [List.map_toArray, List.map_cons, List.map_nil]); first | done | rfl | (simp only [List.length_drop, List.length_take]; rfl)) ?_; (with_reducible refine (table_number.calls a1_0 true _ A25.out).mono ?_); rintro e w' ⟨rfl, ⟨nd, rfl⟩⟩; refine ⟨_, rfl, ?_⟩) | (go_at_call 67; (with_reducible refine (table_in.calls a1_2 0 9 true _ A27.out).mono ?_); rintro e w' ⟨rfl, ⟨nd, rfl⟩⟩) | (go_at_call 67; (with_reducible refine (table_in.calls a1_6 0 30 true _ A30.out).mono ?_); rintro e w' ⟨rfl, ⟨nd, rfl⟩⟩))
                      go_ret
                      exact ⟨by first | rfl | (simp [errW_none, errW_some] <;> rfl) | (simp [*, errW_none, errW_some] <;> rfl), by repeat (first | (with_reducible first | exact HB.out | apply below_alloc | apply pw_below_drewN | apply below_drew1 | refine below_set ?_ GE103.out | refine below_set ?_ GE104.out) | exact HB.out)⟩
                  · replace c31 := Bool.eq_false_iff.mpr c31
                    subst c31
                    have H1 : (some false) = some r := by rw [if_neg (show ¬ (false = true) by decide)] at H; exact H
                    clear H
                    have H := H1
                    clear H1
                    obtain rfl := Option.some.inj H
                    have hnb37 := NB104_103.out
                    have hnc37 := NB103_104.out
                    have hcz38_0 : wc.cell? ⟨gb104, 0, none⟩ = some (.int .i64 a1_0) := (blk_cell BK104.out 0).trans rfl
                    have hcz38_1 : wc.cell? ⟨gb104, 1, none⟩ = some (.string a1_1) := (blk_cell BK104.out 1).trans rfl
                    have hcz38_2 : wc.cell? ⟨gb104, 2, none⟩ = some (.int .i64 a1_2) := (blk_cell BK104.out 2).trans rfl
                    have hcz38_3 : wc.cell? ⟨gb104, 3, none⟩ = some (.int .i64 a1_3) := (blk_cell BK104.out 3).trans rfl
                    have hcz38_4 : wc.cell? ⟨gb104, 4, none⟩ = some (.bool a1_4) := (blk_cell BK104.out 4).trans rfl
                    have hcz38_5 : wc.cell? ⟨gb104, 5, none⟩ = some (.int .i64 a1_5) := (blk_cell BK104.out 5).trans rfl
                    have hcz38_6 : wc.cell? ⟨gb104, 6, none⟩ = some (.int .i64 a1_6) := (blk_cell BK104.out 6).trans rfl
                    have hfz38_0 := blk_frozen BK104.out 0
                    have hfz38_1 := blk_frozen BK104.out 1
                    have hfz38_2 := blk_frozen BK104.out 2
                    have hfz38_3 := blk_frozen BK104.out 3
                    have hfz38_4 := blk_frozen BK104.out 4
                    have hfz38_5 := blk_frozen BK104.out 5
                    have hfz38_6 := blk_frozen BK104.out 6
                    go_wp2_with (first | ((with_reducible refine gate_callee (f := 133) rfl ?_); refine goesL_ (some 53) rfl rfl Tryz.func133 (by kernel_rfl) rfl #[.int .i64 a1_0] rfl (by (try simp only [List.map_toArray, List.map_cons, List.map_nil]); first | done | rfl | (simp only [List.length_drop, List.length_take]; rfl)) ?_; (with_reducible refine (table_number.calls a1_0 true _ A25.out).mono ?_); rintro e w' ⟨rfl, ⟨nd, rfl⟩⟩; refine ⟨_, rfl, ?_⟩) | (go_at_call 67; (with_reducible refine (table_in.calls a1_2 0 9 true _ A27.out).mono ?_); rintro e w' ⟨rfl, ⟨nd, rfl⟩⟩) | (go_at_call 67; (with_reducible refine (table_in.calls a1_6 0 30 false _ A30.out).mono ?_); rintro e w' ⟨rfl, ⟨nd, rfl⟩⟩))
                    go_ret
                    exact ⟨by first | rfl | (simp [errW_none, errW_some] <;> rfl) | (simp [*, errW_none, errW_some] <;> rfl), by repeat (first | (with_reducible first | exact HB.out | apply below_alloc | apply pw_below_drewN | apply below_drew1 | refine below_set ?_ GE103.out | refine below_set ?_ GE104.out) | exact HB.out)⟩
                · replace c29 := Bool.eq_false_iff.mpr c29
                  subst c29
                  have H1 : (some false) = some r := by rw [if_neg (show ¬ (false = true) by decide)] at H; exact H
                  clear H
                  have H := H1
                  clear H1
                  obtain rfl := Option.some.inj H
                  have hnb39 := NB104_103.out
                  have hnc39 := NB103_104.out
                  have hcz40_0 : wc.cell? ⟨gb104, 0, none⟩ = some (.int .i64 a1_0) := (blk_cell BK104.out 0).trans rfl
                  have hcz40_1 : wc.cell? ⟨gb104, 1, none⟩ = some (.string a1_1) := (blk_cell BK104.out 1).trans rfl
                  have hcz40_2 : wc.cell? ⟨gb104, 2, none⟩ = some (.int .i64 a1_2) := (blk_cell BK104.out 2).trans rfl
                  have hcz40_3 : wc.cell? ⟨gb104, 3, none⟩ = some (.int .i64 a1_3) := (blk_cell BK104.out 3).trans rfl
                  have hcz40_4 : wc.cell? ⟨gb104, 4, none⟩ = some (.bool a1_4) := (blk_cell BK104.out 4).trans rfl
                  have hcz40_5 : wc.cell? ⟨gb104, 5, none⟩ = some (.int .i64 a1_5) := (blk_cell BK104.out 5).trans rfl
                  have hcz40_6 : wc.cell? ⟨gb104, 6, none⟩ = some (.int .i64 a1_6) := (blk_cell BK104.out 6).trans rfl
                  have hfz40_0 := blk_frozen BK104.out 0
                  have hfz40_1 := blk_frozen BK104.out 1
                  have hfz40_2 := blk_frozen BK104.out 2
                  have hfz40_3 := blk_frozen BK104.out 3
                  have hfz40_4 := blk_frozen BK104.out 4
                  have hfz40_5 := blk_frozen BK104.out 5
                  have hfz40_6 := blk_frozen BK104.out 6
                  go_wp2_with (first | ((with_reducible refine gate_callee (f := 133) rfl ?_); refine goesL_ (some 53) rfl rfl Tryz.func133 (by kernel_rfl) rfl #[.int .i64 a1_0] rfl (by (try simp only [List.map_toArray, List.map_cons, List.map_nil]); first | done | rfl | (simp only [List.length_drop, List.length_take]; rfl)) ?_; (with_reducible refine (table_number.calls a1_0 true _ A25.out).mono ?_); rintro e w' ⟨rfl, ⟨nd, rfl⟩⟩; refine ⟨_, rfl, ?_⟩) | (go_at_call 67; (with_reducible refine (table_in.calls a1_2 0 9 true _ A27.out).mono ?_); rintro e w' ⟨rfl, ⟨nd, rfl⟩⟩))
                  go_ret
                  exact ⟨by first | rfl | (simp [errW_none, errW_some] <;> rfl) | (simp [*, errW_none, errW_some] <;> rfl), by repeat (first | (with_reducible first | exact HB.out | apply below_alloc | apply pw_below_drewN | apply below_drew1 | refine below_set ?_ GE103.out | refine below_set ?_ GE104.out) | exact HB.out)⟩
              · replace c28 := Bool.eq_false_iff.mpr c28
                subst c28
                have H1 : (some false) = some r := by rw [if_neg (show ¬ (false = true) by decide)] at H; exact H
                clear H
                have H := H1
                clear H1
                obtain rfl := Option.some.inj H
                have hnb41 := NB104_103.out
                have hnc41 := NB103_104.out
                have hcz42_0 : wc.cell? ⟨gb104, 0, none⟩ = some (.int .i64 a1_0) := (blk_cell BK104.out 0).trans rfl
                have hcz42_1 : wc.cell? ⟨gb104, 1, none⟩ = some (.string a1_1) := (blk_cell BK104.out 1).trans rfl
                have hcz42_2 : wc.cell? ⟨gb104, 2, none⟩ = some (.int .i64 a1_2) := (blk_cell BK104.out 2).trans rfl
                have hcz42_3 : wc.cell? ⟨gb104, 3, none⟩ = some (.int .i64 a1_3) := (blk_cell BK104.out 3).trans rfl
                have hcz42_4 : wc.cell? ⟨gb104, 4, none⟩ = some (.bool a1_4) := (blk_cell BK104.out 4).trans rfl
                have hcz42_5 : wc.cell? ⟨gb104, 5, none⟩ = some (.int .i64 a1_5) := (blk_cell BK104.out 5).trans rfl
                have hcz42_6 : wc.cell? ⟨gb104, 6, none⟩ = some (.int .i64 a1_6) := (blk_cell BK104.out 6).trans rfl
                have hfz42_0 := blk_frozen BK104.out 0
                have hfz42_1 := blk_frozen BK104.out 1
                have hfz42_2 := blk_frozen BK104.out 2
                have hfz42_3 := blk_frozen BK104.out 3
                have hfz42_4 := blk_frozen BK104.out 4
                have hfz42_5 := blk_frozen BK104.out 5
                have hfz42_6 := blk_frozen BK104.out 6
                go_wp2_with (first | ((with_reducible refine gate_callee (f := 133) rfl ?_); refine goesL_ (some 53) rfl rfl Tryz.func133 (by kernel_rfl) rfl #[.int .i64 a1_0] rfl (by (try simp only [List.map_toArray, List.map_cons, List.map_nil]); first | done | rfl | (simp only [List.length_drop, List.length_take]; rfl)) ?_; (with_reducible refine (table_number.calls a1_0 true _ A25.out).mono ?_); rintro e w' ⟨rfl, ⟨nd, rfl⟩⟩; refine ⟨_, rfl, ?_⟩) | (go_at_call 67; (with_reducible refine (table_in.calls a1_2 0 9 false _ A27.out).mono ?_); rintro e w' ⟨rfl, ⟨nd, rfl⟩⟩))
                go_ret
                exact ⟨by first | rfl | (simp [errW_none, errW_some] <;> rfl) | (simp [*, errW_none, errW_some] <;> rfl), by repeat (first | (with_reducible first | exact HB.out | apply below_alloc | apply pw_below_drewN | apply below_drew1 | refine below_set ?_ GE103.out | refine below_set ?_ GE104.out) | exact HB.out)⟩
            · replace c26 := Bool.eq_false_iff.mpr c26
              subst c26
              have H1 : (some false) = some r := by rw [if_neg (show ¬ (false = true) by decide)] at H; exact H
              clear H
              have H := H1
              clear H1
              obtain rfl := Option.some.inj H
              have hnb43 := NB104_103.out
              have hnc43 := NB103_104.out
              have hcz44_0 : wc.cell? ⟨gb104, 0, none⟩ = some (.int .i64 a1_0) := (blk_cell BK104.out 0).trans rfl
              have hcz44_1 : wc.cell? ⟨gb104, 1, none⟩ = some (.string a1_1) := (blk_cell BK104.out 1).trans rfl
              have hcz44_2 : wc.cell? ⟨gb104, 2, none⟩ = some (.int .i64 a1_2) := (blk_cell BK104.out 2).trans rfl
              have hcz44_3 : wc.cell? ⟨gb104, 3, none⟩ = some (.int .i64 a1_3) := (blk_cell BK104.out 3).trans rfl
              have hcz44_4 : wc.cell? ⟨gb104, 4, none⟩ = some (.bool a1_4) := (blk_cell BK104.out 4).trans rfl
              have hcz44_5 : wc.cell? ⟨gb104, 5, none⟩ = some (.int .i64 a1_5) := (blk_cell BK104.out 5).trans rfl
              have hcz44_6 : wc.cell? ⟨gb104, 6, none⟩ = some (.int .i64 a1_6) := (blk_cell BK104.out 6).trans rfl
              have hfz44_0 := blk_frozen BK104.out 0
              have hfz44_1 := blk_frozen BK104.out 1
              have hfz44_2 := blk_frozen BK104.out 2
              have hfz44_3 := blk_frozen BK104.out 3
              have hfz44_4 := blk_frozen BK104.out 4
              have hfz44_5 := blk_frozen BK104.out 5
              have hfz44_6 := blk_frozen BK104.out 6
              go_wp2_with (first | ((with_reducible refine gate_callee (f := 133) rfl ?_); refine goesL_ (some 53) rfl rfl Tryz.func133 (by kernel_rfl) rfl #[.int .i64 a1_0] rfl (by (try simp only [List.map_toArray, List.map_cons, List.map_nil]); first | done | rfl | (simp only [List.length_drop, List.length_take]; rfl)) ?_; (with_reducible refine (table_number.calls a1_0 false _ A25.out).mono ?_); rintro e w' ⟨rfl, ⟨nd, rfl⟩⟩; refine ⟨_, rfl, ?_⟩))
              go_ret
              exact ⟨by first | rfl | (simp [errW_none, errW_some] <;> rfl) | (simp [*, errW_none, errW_some] <;> rfl), by repeat (first | (with_reducible first | exact HB.out | apply below_alloc | apply pw_below_drewN | apply below_drew1 | refine below_set ?_ GE103.out | refine below_set ?_ GE104.out) | exact HB.out)⟩
          · rw [if_neg c24] at H
            have c24b0 : (a1_5 == (-1)) = false := beq_eq_false_iff_ne.mpr c24
            have c24b1 : (a1_5 != (-1)) = true := bne_iff_ne.mpr c24
            replace H := Option.bind_eq_some_iff.mp H
            obtain ⟨t110, A450, H⟩ := H
            replace H : (if t110 = true then ((table_number.f a1_0).bind fun t111 => (if t111 = true then ((table_in.f a1_2 0 9).bind fun t112 => (if t112 = true then (if x5_2 = true then (if a1_4 = true then (some false) else ((table_in.f a1_6 0 30).bind fun t113 => (if t113 = true then (if a1_6 = 0 then (some true) else (some (!x6_17))) else (some false)))) else (some false)) else (some false))) else (some false))) else ((table_number.f a1_0).bind fun t114 => (if t114 = true then ((table_in.f a1_2 0 9).bind fun t115 => (if t115 = true then (if x5_2 = true then (some false) else (some false)) else (some false))) else (some false)))) = some r := H
            have A45 := Aside0.mk A450
            clear A450
            by_cases c46 : t110 = true
            · subst c46
              have H1 : ((table_number.f a1_0).bind fun t111 => (if t111 = true then ((table_in.f a1_2 0 9).bind fun t112 => (if t112 = true then (if x5_2 = true then (if a1_4 = true then (some false) else ((table_in.f a1_6 0 30).bind fun t113 => (if t113 = true then (if a1_6 = 0 then (some true) else (some (!x6_17))) else (some false)))) else (some false)) else (some false))) else (some false))) = some r := by rw [if_pos rfl] at H; exact H
              clear H
              have H := H1
              clear H1
              replace H := Option.bind_eq_some_iff.mp H
              obtain ⟨t111, A470, H⟩ := H
              replace H : (if t111 = true then ((table_in.f a1_2 0 9).bind fun t112 => (if t112 = true then (if x5_2 = true then (if a1_4 = true then (some false) else ((table_in.f a1_6 0 30).bind fun t113 => (if t113 = true then (if a1_6 = 0 then (some true) else (some (!x6_17))) else (some false)))) else (some false)) else (some false))) else (some false)) = some r := H
              have A47 := Aside0.mk A470
              clear A470
              by_cases c48 : t111 = true
              · subst c48
                have H1 : ((table_in.f a1_2 0 9).bind fun t112 => (if t112 = true then (if x5_2 = true then (if a1_4 = true then (some false) else ((table_in.f a1_6 0 30).bind fun t113 => (if t113 = true then (if a1_6 = 0 then (some true) else (some (!x6_17))) else (some false)))) else (some false)) else (some false))) = some r := by rw [if_pos rfl] at H; exact H
                clear H
                have H := H1
                clear H1
                replace H := Option.bind_eq_some_iff.mp H
                obtain ⟨t112, A490, H⟩ := H
                replace H : (if t112 = true then (if x5_2 = true then (if a1_4 = true then (some false) else ((table_in.f a1_6 0 30).bind fun t113 => (if t113 = true then (if a1_6 = 0 then (some true) else (some (!x6_17))) else (some false)))) else (some false)) else (some false)) = some r := H
                have A49 := Aside0.mk A490
                clear A490
                by_cases c50 : t112 = true
                · subst c50
                  have H1 : (if x5_2 = true then (if a1_4 = true then (some false) else ((table_in.f a1_6 0 30).bind fun t113 => (if t113 = true then (if a1_6 = 0 then (some true) else (some (!x6_17))) else (some false)))) else (some false)) = some r := by rw [if_pos rfl] at H; exact H
                  clear H
                  have H := H1
                  clear H1
                  by_cases c51 : x5_2 = true
                  · subst c51
                    have H1 : (if a1_4 = true then (some false) else ((table_in.f a1_6 0 30).bind fun t113 => (if t113 = true then (if a1_6 = 0 then (some true) else (some (!x6_17))) else (some false)))) = some r := by rw [if_pos rfl] at H; exact H
                    clear H
                    have H := H1
                    clear H1
                    by_cases c52 : a1_4 = true
                    · subst c52
                      have H1 : (some false) = some r := by rw [if_pos rfl] at H; exact H
                      clear H
                      have H := H1
                      clear H1
                      obtain rfl := Option.some.inj H
                      have hnb53 := NB104_103.out
                      have hnc53 := NB103_104.out
                      have hcz54_0 : wc.cell? ⟨gb104, 0, none⟩ = some (.int .i64 a1_0) := (blk_cell BK104.out 0).trans rfl
                      have hcz54_1 : wc.cell? ⟨gb104, 1, none⟩ = some (.string a1_1) := (blk_cell BK104.out 1).trans rfl
                      have hcz54_2 : wc.cell? ⟨gb104, 2, none⟩ = some (.int .i64 a1_2) := (blk_cell BK104.out 2).trans rfl
                      have hcz54_3 : wc.cell? ⟨gb104, 3, none⟩ = some (.int .i64 a1_3) := (blk_cell BK104.out 3).trans rfl
                      have hcz54_4 : wc.cell? ⟨gb104, 4, none⟩ = some (.bool true) := (blk_cell BK104.out 4).trans rfl
                      have hcz54_5 : wc.cell? ⟨gb104, 5, none⟩ = some (.int .i64 a1_5) := (blk_cell BK104.out 5).trans rfl
                      have hcz54_6 : wc.cell? ⟨gb104, 6, none⟩ = some (.int .i64 a1_6) := (blk_cell BK104.out 6).trans rfl
                      have hfz54_0 := blk_frozen BK104.out 0
                      have hfz54_1 := blk_frozen BK104.out 1
                      have hfz54_2 := blk_frozen BK104.out 2
                      have hfz54_3 := blk_frozen BK104.out 3
                      have hfz54_4 := blk_frozen BK104.out 4
                      have hfz54_5 := blk_frozen BK104.out 5
                      have hfz54_6 := blk_frozen BK104.out 6
                      go_wp2_with (first | (go_at_call 132; (with_reducible refine (table_keyed.calls a1_5 true _ A45.out).mono ?_); rintro e w' ⟨rfl, ⟨nd, rfl⟩⟩) | ((with_reducible refine gate_callee (f := 133) rfl ?_); refine goesL_ (some 53) rfl rfl Tryz.func133 (by kernel_rfl) rfl #[.int .i64 a1_0] rfl (by (try simp only [List.map_toArray, List.map_cons, List.map_nil]); first | done | rfl | (simp only [List.length_drop, List.length_take]; rfl)) ?_; (with_reducible refine (table_number.calls a1_0 true _ A47.out).mono ?_); rintro e w' ⟨rfl, ⟨nd, rfl⟩⟩; refine ⟨_, rfl, ?_⟩) | (go_at_call 67; (with_reducible refine (table_in.calls a1_2 0 9 true _ A49.out).mono ?_); rintro e w' ⟨rfl, ⟨nd, rfl⟩⟩))
                      go_ret
                      exact ⟨by first | rfl | (simp [errW_none, errW_some] <;> rfl) | (simp [*, errW_none, errW_some] <;> rfl), by repeat (first | (with_reducible first | exact HB.out | apply below_alloc | apply pw_below_drewN | apply below_drew1 | refine below_set ?_ GE103.out | refine below_set ?_ GE104.out) | exact HB.out)⟩
                    · replace c52 := Bool.eq_false_iff.mpr c52
                      subst c52
                      have H1 : ((table_in.f a1_6 0 30).bind fun t113 => (if t113 = true then (if a1_6 = 0 then (some true) else (some (!x6_17))) else (some false))) = some r := by rw [if_neg (show ¬ (false = true) by decide)] at H; exact H
                      clear H
                      have H := H1
                      clear H1
                      replace H := Option.bind_eq_some_iff.mp H
                      obtain ⟨t113, A550, H⟩ := H
                      replace H : (if t113 = true then (if a1_6 = 0 then (some true) else (some (!x6_17))) else (some false)) = some r := H
                      have A55 := Aside0.mk A550
                      clear A550
                      by_cases c56 : t113 = true
                      · subst c56
                        have H1 : (if a1_6 = 0 then (some true) else (some (!x6_17))) = some r := by rw [if_pos rfl] at H; exact H
                        clear H
                        have H := H1
                        clear H1
                        by_cases c57 : a1_6 = 0
                        · rw [if_pos c57] at H
                          have c57b0 : (a1_6 == 0) = true := beq_iff_eq.mpr c57
                          have c57b1 : (a1_6 != 0) = false := bne_eq_false_iff_eq.mpr c57
                          clear c57
                          obtain rfl := Option.some.inj H
                          have hnb58 := NB104_103.out
                          have hnc58 := NB103_104.out
                          have hcz59_0 : wc.cell? ⟨gb104, 0, none⟩ = some (.int .i64 a1_0) := (blk_cell BK104.out 0).trans rfl
                          have hcz59_1 : wc.cell? ⟨gb104, 1, none⟩ = some (.string a1_1) := (blk_cell BK104.out 1).trans rfl
                          have hcz59_2 : wc.cell? ⟨gb104, 2, none⟩ = some (.int .i64 a1_2) := (blk_cell BK104.out 2).trans rfl
                          have hcz59_3 : wc.cell? ⟨gb104, 3, none⟩ = some (.int .i64 a1_3) := (blk_cell BK104.out 3).trans rfl
                          have hcz59_4 : wc.cell? ⟨gb104, 4, none⟩ = some (.bool false) := (blk_cell BK104.out 4).trans rfl
                          have hcz59_5 : wc.cell? ⟨gb104, 5, none⟩ = some (.int .i64 a1_5) := (blk_cell BK104.out 5).trans rfl
                          have hcz59_6 : wc.cell? ⟨gb104, 6, none⟩ = some (.int .i64 a1_6) := (blk_cell BK104.out 6).trans rfl
                          have hfz59_0 := blk_frozen BK104.out 0
                          have hfz59_1 := blk_frozen BK104.out 1
                          have hfz59_2 := blk_frozen BK104.out 2
                          have hfz59_3 := blk_frozen BK104.out 3
                          have hfz59_4 := blk_frozen BK104.out 4
                          have hfz59_5 := blk_frozen BK104.out 5
                          have hfz59_6 := blk_frozen BK104.out 6
                          go_wp2_with (first | (go_at_call 132; (with_reducible refine (table_keyed.calls a1_5 true _ A45.out).mono ?_); rintro e w' ⟨rfl, ⟨nd, rfl⟩⟩) | ((with_reducible refine gate_callee (f := 133) rfl ?_); refine goesL_ (some 53) rfl rfl Tryz.func133 (by kernel_rfl) rfl #[.int .i64 a1_0] rfl (by (try simp only [List.map_toArray, List.map_cons, List.map_nil]); first | done | rfl | (simp only [List.length_drop, List.length_take]; rfl)) ?_; (with_reducible refine (table_number.calls a1_0 true _ A47.out).mono ?_); rintro e w' ⟨rfl, ⟨nd, rfl⟩⟩; refine ⟨_, rfl, ?_⟩) | (go_at_call 67; (with_reducible refine (table_in.calls a1_2 0 9 true _ A49.out).mono ?_); rintro e w' ⟨rfl, ⟨nd, rfl⟩⟩) | (go_at_call 67; (with_reducible refine (table_in.calls a1_6 0 30 true _ A55.out).mono ?_); rintro e w' ⟨rfl, ⟨nd, rfl⟩⟩))
                          go_ret
                          exact ⟨by first | rfl | (simp [errW_none, errW_some] <;> rfl) | (simp [*, errW_none, errW_some] <;> rfl), by repeat (first | (with_reducible first | exact HB.out | apply below_alloc | apply pw_below_drewN | apply below_drew1 | refine below_set ?_ GE103.out | refine below_set ?_ GE104.out) | exact HB.out)⟩
                        · rw [if_neg c57] at H
                          have c57b0 : (a1_6 == 0) = false := beq_eq_false_iff_ne.mpr c57
                          have c57b1 : (a1_6 != 0) = true := bne_iff_ne.mpr c57
                          obtain rfl := Option.some.inj H
                          have hnb60 := NB104_103.out
                          have hnc60 := NB103_104.out
                          have hcz61_0 : wc.cell? ⟨gb104, 0, none⟩ = some (.int .i64 a1_0) := (blk_cell BK104.out 0).trans rfl
                          have hcz61_1 : wc.cell? ⟨gb104, 1, none⟩ = some (.string a1_1) := (blk_cell BK104.out 1).trans rfl
                          have hcz61_2 : wc.cell? ⟨gb104, 2, none⟩ = some (.int .i64 a1_2) := (blk_cell BK104.out 2).trans rfl
                          have hcz61_3 : wc.cell? ⟨gb104, 3, none⟩ = some (.int .i64 a1_3) := (blk_cell BK104.out 3).trans rfl
                          have hcz61_4 : wc.cell? ⟨gb104, 4, none⟩ = some (.bool false) := (blk_cell BK104.out 4).trans rfl
                          have hcz61_5 : wc.cell? ⟨gb104, 5, none⟩ = some (.int .i64 a1_5) := (blk_cell BK104.out 5).trans rfl
                          have hcz61_6 : wc.cell? ⟨gb104, 6, none⟩ = some (.int .i64 a1_6) := (blk_cell BK104.out 6).trans rfl
                          have hfz61_0 := blk_frozen BK104.out 0
                          have hfz61_1 := blk_frozen BK104.out 1
                          have hfz61_2 := blk_frozen BK104.out 2
                          have hfz61_3 := blk_frozen BK104.out 3
                          have hfz61_4 := blk_frozen BK104.out 4
                          have hfz61_5 := blk_frozen BK104.out 5
                          have hfz61_6 := blk_frozen BK104.out 6
                          go_wp2_with (first | (go_at_call 132; (with_reducible refine (table_keyed.calls a1_5 true _ A45.out).mono ?_); rintro e w' ⟨rfl, ⟨nd, rfl⟩⟩) | ((with_reducible refine gate_callee (f := 133) rfl ?_); refine goesL_ (some 53) rfl rfl Tryz.func133 (by kernel_rfl) rfl #[.int .i64 a1_0] rfl (by (try simp only [List.map_toArray, List.map_cons, List.map_nil]); first | done | rfl | (simp only [List.length_drop, List.length_take]; rfl)) ?_; (with_reducible refine (table_number.calls a1_0 true _ A47.out).mono ?_); rintro e w' ⟨rfl, ⟨nd, rfl⟩⟩; refine ⟨_, rfl, ?_⟩) | (go_at_call 67; (with_reducible refine (table_in.calls a1_2 0 9 true _ A49.out).mono ?_); rintro e w' ⟨rfl, ⟨nd, rfl⟩⟩) | (go_at_call 67; (with_reducible refine (table_in.calls a1_6 0 30 true _ A55.out).mono ?_); rintro e w' ⟨rfl, ⟨nd, rfl⟩⟩))
                          go_ret
                          exact ⟨by first | rfl | (simp [errW_none, errW_some] <;> rfl) | (simp [*, errW_none, errW_some] <;> rfl), by repeat (first | (with_reducible first | exact HB.out | apply below_alloc | apply pw_below_drewN | apply below_drew1 | refine below_set ?_ GE103.out | refine below_set ?_ GE104.out) | exact HB.out)⟩
                      · replace c56 := Bool.eq_false_iff.mpr c56
                        subst c56
                        have H1 : (some false) = some r := by rw [if_neg (show ¬ (false = true) by decide)] at H; exact H
                        clear H
                        have H := H1
                        clear H1
                        obtain rfl := Option.some.inj H
                        have hnb62 := NB104_103.out
                        have hnc62 := NB103_104.out
                        have hcz63_0 : wc.cell? ⟨gb104, 0, none⟩ = some (.int .i64 a1_0) := (blk_cell BK104.out 0).trans rfl
                        have hcz63_1 : wc.cell? ⟨gb104, 1, none⟩ = some (.string a1_1) := (blk_cell BK104.out 1).trans rfl
                        have hcz63_2 : wc.cell? ⟨gb104, 2, none⟩ = some (.int .i64 a1_2) := (blk_cell BK104.out 2).trans rfl
                        have hcz63_3 : wc.cell? ⟨gb104, 3, none⟩ = some (.int .i64 a1_3) := (blk_cell BK104.out 3).trans rfl
                        have hcz63_4 : wc.cell? ⟨gb104, 4, none⟩ = some (.bool false) := (blk_cell BK104.out 4).trans rfl
                        have hcz63_5 : wc.cell? ⟨gb104, 5, none⟩ = some (.int .i64 a1_5) := (blk_cell BK104.out 5).trans rfl
                        have hcz63_6 : wc.cell? ⟨gb104, 6, none⟩ = some (.int .i64 a1_6) := (blk_cell BK104.out 6).trans rfl
                        have hfz63_0 := blk_frozen BK104.out 0
                        have hfz63_1 := blk_frozen BK104.out 1
                        have hfz63_2 := blk_frozen BK104.out 2
                        have hfz63_3 := blk_frozen BK104.out 3
                        have hfz63_4 := blk_frozen BK104.out 4
                        have hfz63_5 := blk_frozen BK104.out 5
                        have hfz63_6 := blk_frozen BK104.out 6
                        go_wp2_with (first | (go_at_call 132; (with_reducible refine (table_keyed.calls a1_5 true _ A45.out).mono ?_); rintro e w' ⟨rfl, ⟨nd, rfl⟩⟩) | ((with_reducible refine gate_callee (f := 133) rfl ?_); refine goesL_ (some 53) rfl rfl Tryz.func133 (by kernel_rfl) rfl #[.int .i64 a1_0] rfl (by (try simp only [List.map_toArray, List.map_cons, List.map_nil]); first | done | rfl | (simp only [List.length_drop, List.length_take]; rfl)) ?_; (with_reducible refine (table_number.calls a1_0 true _ A47.out).mono ?_); rintro e w' ⟨rfl, ⟨nd, rfl⟩⟩; refine ⟨_, rfl, ?_⟩) | (go_at_call 67; (with_reducible refine (table_in.calls a1_2 0 9 true _ A49.out).mono ?_); rintro e w' ⟨rfl, ⟨nd, rfl⟩⟩) | (go_at_call 67; (with_reducible refine (table_in.calls a1_6 0 30 false _ A55.out).mono ?_); rintro e w' ⟨rfl, ⟨nd, rfl⟩⟩))
                        go_ret
                        exact ⟨by first | rfl | (simp [errW_none, errW_some] <;> rfl) | (simp [*, errW_none, errW_some] <;> rfl), by repeat (first | (with_reducible first | exact HB.out | apply below_alloc | apply pw_below_drewN | apply below_drew1 | refine below_set ?_ GE103.out | refine below_set ?_ GE104.out) | exact HB.out)⟩
                  · replace c51 := Bool.eq_false_iff.mpr c51
                    subst c51
                    have H1 : (some false) = some r := by rw [if_neg (show ¬ (false = true) by decide)] at H; exact H
                    clear H
                    have H := H1
                    clear H1
                    obtain rfl := Option.some.inj H
                    have hnb64 := NB104_103.out
                    have hnc64 := NB103_104.out
                    have hcz65_0 : wc.cell? ⟨gb104, 0, none⟩ = some (.int .i64 a1_0) := (blk_cell BK104.out 0).trans rfl
                    have hcz65_1 : wc.cell? ⟨gb104, 1, none⟩ = some (.string a1_1) := (blk_cell BK104.out 1).trans rfl
                    have hcz65_2 : wc.cell? ⟨gb104, 2, none⟩ = some (.int .i64 a1_2) := (blk_cell BK104.out 2).trans rfl
                    have hcz65_3 : wc.cell? ⟨gb104, 3, none⟩ = some (.int .i64 a1_3) := (blk_cell BK104.out 3).trans rfl
                    have hcz65_4 : wc.cell? ⟨gb104, 4, none⟩ = some (.bool a1_4) := (blk_cell BK104.out 4).trans rfl
                    have hcz65_5 : wc.cell? ⟨gb104, 5, none⟩ = some (.int .i64 a1_5) := (blk_cell BK104.out 5).trans rfl
                    have hcz65_6 : wc.cell? ⟨gb104, 6, none⟩ = some (.int .i64 a1_6) := (blk_cell BK104.out 6).trans rfl
                    have hfz65_0 := blk_frozen BK104.out 0
                    have hfz65_1 := blk_frozen BK104.out 1
                    have hfz65_2 := blk_frozen BK104.out 2
                    have hfz65_3 := blk_frozen BK104.out 3
                    have hfz65_4 := blk_frozen BK104.out 4
                    have hfz65_5 := blk_frozen BK104.out 5
                    have hfz65_6 := blk_frozen BK104.out 6
                    go_wp2_with (first | (go_at_call 132; (with_reducible refine (table_keyed.calls a1_5 true _ A45.out).mono ?_); rintro e w' ⟨rfl, ⟨nd, rfl⟩⟩) | ((with_reducible refine gate_callee (f := 133) rfl ?_); refine goesL_ (some 53) rfl rfl Tryz.func133 (by kernel_rfl) rfl #[.int .i64 a1_0] rfl (by (try simp only [List.map_toArray, List.map_cons, List.map_nil]); first | done | rfl | (simp only [List.length_drop, List.length_take]; rfl)) ?_; (with_reducible refine (table_number.calls a1_0 true _ A47.out).mono ?_); rintro e w' ⟨rfl, ⟨nd, rfl⟩⟩; refine ⟨_, rfl, ?_⟩) | (go_at_call 67; (with_reducible refine (table_in.calls a1_2 0 9 true _ A49.out).mono ?_); rintro e w' ⟨rfl, ⟨nd, rfl⟩⟩))
                    go_ret
                    exact ⟨by first | rfl | (simp [errW_none, errW_some] <;> rfl) | (simp [*, errW_none, errW_some] <;> rfl), by repeat (first | (with_reducible first | exact HB.out | apply below_alloc | apply pw_below_drewN | apply below_drew1 | refine below_set ?_ GE103.out | refine below_set ?_ GE104.out) | exact HB.out)⟩
                · replace c50 := Bool.eq_false_iff.mpr c50
                  subst c50
                  have H1 : (some false) = some r := by rw [if_neg (show ¬ (false = true) by decide)] at H; exact H
                  clear H
                  have H := H1
                  clear H1
                  obtain rfl := Option.some.inj H
                  have hnb66 := NB104_103.out
                  have hnc66 := NB103_104.out
                  have hcz67_0 : wc.cell? ⟨gb104, 0, none⟩ = some (.int .i64 a1_0) := (blk_cell BK104.out 0).trans rfl
                  have hcz67_1 : wc.cell? ⟨gb104, 1, none⟩ = some (.string a1_1) := (blk_cell BK104.out 1).trans rfl
                  have hcz67_2 : wc.cell? ⟨gb104, 2, none⟩ = some (.int .i64 a1_2) := (blk_cell BK104.out 2).trans rfl
                  have hcz67_3 : wc.cell? ⟨gb104, 3, none⟩ = some (.int .i64 a1_3) := (blk_cell BK104.out 3).trans rfl
                  have hcz67_4 : wc.cell? ⟨gb104, 4, none⟩ = some (.bool a1_4) := (blk_cell BK104.out 4).trans rfl
                  have hcz67_5 : wc.cell? ⟨gb104, 5, none⟩ = some (.int .i64 a1_5) := (blk_cell BK104.out 5).trans rfl
                  have hcz67_6 : wc.cell? ⟨gb104, 6, none⟩ = some (.int .i64 a1_6) := (blk_cell BK104.out 6).trans rfl
                  have hfz67_0 := blk_frozen BK104.out 0
                  have hfz67_1 := blk_frozen BK104.out 1
                  have hfz67_2 := blk_frozen BK104.out 2
                  have hfz67_3 := blk_frozen BK104.out 3
                  have hfz67_4 := blk_frozen BK104.out 4
                  have hfz67_5 := blk_frozen BK104.out 5
                  have hfz67_6 := blk_frozen BK104.out 6
                  go_wp2_with (first | (go_at_call 132; (with_reducible refine (table_keyed.calls a1_5 true _ A45.out).mono ?_); rintro e w' ⟨rfl, ⟨nd, rfl⟩⟩) | ((with_reducible refine gate_callee (f := 133) rfl ?_); refine goesL_ (some 53) rfl rfl Tryz.func133 (by kernel_rfl) rfl #[.int .i64 a1_0] rfl (by (try simp only [List.map_toArray, List.map_cons, List.map_nil]); first | done | rfl | (simp only [List.length_drop, List.length_take]; rfl)) ?_; (with_reducible refine (table_number.calls a1_0 true _ A47.out).mono ?_); rintro e w' ⟨rfl, ⟨nd, rfl⟩⟩; refine ⟨_, rfl, ?_⟩) | (go_at_call 67; (with_reducible refine (table_in.calls a1_2 0 9 false _ A49.out).mono ?_); rintro e w' ⟨rfl, ⟨nd, rfl⟩⟩))
                  go_ret
                  exact ⟨by first | rfl | (simp [errW_none, errW_some] <;> rfl) | (simp [*, errW_none, errW_some] <;> rfl), by repeat (first | (with_reducible first | exact HB.out | apply below_alloc | apply pw_below_drewN | apply below_drew1 | refine below_set ?_ GE103.out | refine below_set ?_ GE104.out) | exact HB.out)⟩
              · replace c48 := Bool.eq_false_iff.mpr c48
                subst c48
                have H1 : (some false) = some r := by rw [if_neg (show ¬ (false = true) by decide)] at H; exact H
                clear H
                have H := H1
                clear H1
                obtain rfl := Option.some.inj H
                have hnb68 := NB104_103.out
                have hnc68 := NB103_104.out
                have hcz69_0 : wc.cell? ⟨gb104, 0, none⟩ = some (.int .i64 a1_0) := (blk_cell BK104.out 0).trans rfl
                have hcz69_1 : wc.cell? ⟨gb104, 1, none⟩ = some (.string a1_1) := (blk_cell BK104.out 1).trans rfl
                have hcz69_2 : wc.cell? ⟨gb104, 2, none⟩ = some (.int .i64 a1_2) := (blk_cell BK104.out 2).trans rfl
                have hcz69_3 : wc.cell? ⟨gb104, 3, none⟩ = some (.int .i64 a1_3) := (blk_cell BK104.out 3).trans rfl
                have hcz69_4 : wc.cell? ⟨gb104, 4, none⟩ = some (.bool a1_4) := (blk_cell BK104.out 4).trans rfl
                have hcz69_5 : wc.cell? ⟨gb104, 5, none⟩ = some (.int .i64 a1_5) := (blk_cell BK104.out 5).trans rfl
                have hcz69_6 : wc.cell? ⟨gb104, 6, none⟩ = some (.int .i64 a1_6) := (blk_cell BK104.out 6).trans rfl
                have hfz69_0 := blk_frozen BK104.out 0
                have hfz69_1 := blk_frozen BK104.out 1
                have hfz69_2 := blk_frozen BK104.out 2
                have hfz69_3 := blk_frozen BK104.out 3
                have hfz69_4 := blk_frozen BK104.out 4
                have hfz69_5 := blk_frozen BK104.out 5
                have hfz69_6 := blk_frozen BK104.out 6
                go_wp2_with (first | (go_at_call 132; (with_reducible refine (table_keyed.calls a1_5 true _ A45.out).mono ?_); rintro e w' ⟨rfl, ⟨nd, rfl⟩⟩) | ((with_reducible refine gate_callee (f := 133) rfl ?_); refine goesL_ (some 53) rfl rfl Tryz.func133 (by kernel_rfl) rfl #[.int .i64 a1_0] rfl (by (try simp only [List.map_toArray, List.map_cons, List.map_nil]); first | done | rfl | (simp only [List.length_drop, List.length_take]; rfl)) ?_; (with_reducible refine (table_number.calls a1_0 false _ A47.out).mono ?_); rintro e w' ⟨rfl, ⟨nd, rfl⟩⟩; refine ⟨_, rfl, ?_⟩))
                go_ret
                exact ⟨by first | rfl | (simp [errW_none, errW_some] <;> rfl) | (simp [*, errW_none, errW_some] <;> rfl), by repeat (first | (with_reducible first | exact HB.out | apply below_alloc | apply pw_below_drewN | apply below_drew1 | refine below_set ?_ GE103.out | refine below_set ?_ GE104.out) | exact HB.out)⟩
            · replace c46 := Bool.eq_false_iff.mpr c46
              subst c46
              have H1 : ((table_number.f a1_0).bind fun t114 => (if t114 = true then ((table_in.f a1_2 0 9).bind fun t115 => (if t115 = true then (if x5_2 = true then (some false) else (some false)) else (some false))) else (some false))) = some r := by rw [if_neg (show ¬ (false = true) by decide)] at H; exact H
              clear H
              have H := H1
              clear H1
              replace H := Option.bind_eq_some_iff.mp H
              obtain ⟨t114, A700, H⟩ := H
              replace H : (if t114 = true then ((table_in.f a1_2 0 9).bind fun t115 => (if t115 = true then (if x5_2 = true then (some false) else (some false)) else (some false))) else (some false)) = some r := H
              have A70 := Aside0.mk A700
              clear A700
              by_cases c71 : t114 = true
              · subst c71
                have H1 : ((table_in.f a1_2 0 9).bind fun t115 => (if t115 = true then (if x5_2 = true then (some false) else (some false)) else (some false))) = some r := by rw [if_pos rfl] at H; exact H
                clear H
                have H := H1
                clear H1
                replace H := Option.bind_eq_some_iff.mp H
                obtain ⟨t115, A720, H⟩ := H
                replace H : (if t115 = true then (if x5_2 = true then (some false) else (some false)) else (some false)) = some r := H
                have A72 := Aside0.mk A720
                clear A720
                by_cases c73 : t115 = true
                · subst c73
                  have H1 : (if x5_2 = true then (some false) else (some false)) = some r := by rw [if_pos rfl] at H; exact H
                  clear H
                  have H := H1
                  clear H1
                  by_cases c74 : x5_2 = true
                  · subst c74
                    have H1 : (some false) = some r := by rw [if_pos rfl] at H; exact H
                    clear H
                    have H := H1
                    clear H1
                    obtain rfl := Option.some.inj H
                    have hnb75 := NB104_103.out
                    have hnc75 := NB103_104.out
                    have hcz76_0 : wc.cell? ⟨gb104, 0, none⟩ = some (.int .i64 a1_0) := (blk_cell BK104.out 0).trans rfl
                    have hcz76_1 : wc.cell? ⟨gb104, 1, none⟩ = some (.string a1_1) := (blk_cell BK104.out 1).trans rfl
                    have hcz76_2 : wc.cell? ⟨gb104, 2, none⟩ = some (.int .i64 a1_2) := (blk_cell BK104.out 2).trans rfl
                    have hcz76_3 : wc.cell? ⟨gb104, 3, none⟩ = some (.int .i64 a1_3) := (blk_cell BK104.out 3).trans rfl
                    have hcz76_4 : wc.cell? ⟨gb104, 4, none⟩ = some (.bool a1_4) := (blk_cell BK104.out 4).trans rfl
                    have hcz76_5 : wc.cell? ⟨gb104, 5, none⟩ = some (.int .i64 a1_5) := (blk_cell BK104.out 5).trans rfl
                    have hcz76_6 : wc.cell? ⟨gb104, 6, none⟩ = some (.int .i64 a1_6) := (blk_cell BK104.out 6).trans rfl
                    have hfz76_0 := blk_frozen BK104.out 0
                    have hfz76_1 := blk_frozen BK104.out 1
                    have hfz76_2 := blk_frozen BK104.out 2
                    have hfz76_3 := blk_frozen BK104.out 3
                    have hfz76_4 := blk_frozen BK104.out 4
                    have hfz76_5 := blk_frozen BK104.out 5
                    have hfz76_6 := blk_frozen BK104.out 6
                    go_wp2_with (first | (go_at_call 132; (with_reducible refine (table_keyed.calls a1_5 false _ A45.out).mono ?_); rintro e w' ⟨rfl, ⟨nd, rfl⟩⟩) | ((with_reducible refine gate_callee (f := 133) rfl ?_); refine goesL_ (some 53) rfl rfl Tryz.func133 (by kernel_rfl) rfl #[.int .i64 a1_0] rfl (by (try simp only [List.map_toArray, List.map_cons, List.map_nil]); first | done | rfl | (simp only [List.length_drop, List.length_take]; rfl)) ?_; (with_reducible refine (table_number.calls a1_0 true _ A70.out).mono ?_); rintro e w' ⟨rfl, ⟨nd, rfl⟩⟩; refine ⟨_, rfl, ?_⟩) | (go_at_call 67; (with_reducible refine (table_in.calls a1_2 0 9 true _ A72.out).mono ?_); rintro e w' ⟨rfl, ⟨nd, rfl⟩⟩))
                    go_ret
                    exact ⟨by first | rfl | (simp [errW_none, errW_some] <;> rfl) | (simp [*, errW_none, errW_some] <;> rfl), by repeat (first | (with_reducible first | exact HB.out | apply below_alloc | apply pw_below_drewN | apply below_drew1 | refine below_set ?_ GE103.out | refine below_set ?_ GE104.out) | exact HB.out)⟩
                  · replace c74 := Bool.eq_false_iff.mpr c74
                    subst c74
                    have H1 : (some false) = some r := by rw [if_neg (show ¬ (false = true) by decide)] at H; exact H
                    clear H
                    have H := H1
                    clear H1
                    obtain rfl := Option.some.inj H
                    have hnb77 := NB104_103.out
                    have hnc77 := NB103_104.out
                    have hcz78_0 : wc.cell? ⟨gb104, 0, none⟩ = some (.int .i64 a1_0) := (blk_cell BK104.out 0).trans rfl
                    have hcz78_1 : wc.cell? ⟨gb104, 1, none⟩ = some (.string a1_1) := (blk_cell BK104.out 1).trans rfl
                    have hcz78_2 : wc.cell? ⟨gb104, 2, none⟩ = some (.int .i64 a1_2) := (blk_cell BK104.out 2).trans rfl
                    have hcz78_3 : wc.cell? ⟨gb104, 3, none⟩ = some (.int .i64 a1_3) := (blk_cell BK104.out 3).trans rfl
                    have hcz78_4 : wc.cell? ⟨gb104, 4, none⟩ = some (.bool a1_4) := (blk_cell BK104.out 4).trans rfl
                    have hcz78_5 : wc.cell? ⟨gb104, 5, none⟩ = some (.int .i64 a1_5) := (blk_cell BK104.out 5).trans rfl
                    have hcz78_6 : wc.cell? ⟨gb104, 6, none⟩ = some (.int .i64 a1_6) := (blk_cell BK104.out 6).trans rfl
                    have hfz78_0 := blk_frozen BK104.out 0
                    have hfz78_1 := blk_frozen BK104.out 1
                    have hfz78_2 := blk_frozen BK104.out 2
                    have hfz78_3 := blk_frozen BK104.out 3
                    have hfz78_4 := blk_frozen BK104.out 4
                    have hfz78_5 := blk_frozen BK104.out 5
                    have hfz78_6 := blk_frozen BK104.out 6
                    go_wp2_with (first | (go_at_call 132; (with_reducible refine (table_keyed.calls a1_5 false _ A45.out).mono ?_); rintro e w' ⟨rfl, ⟨nd, rfl⟩⟩) | ((with_reducible refine gate_callee (f := 133) rfl ?_); refine goesL_ (some 53) rfl rfl Tryz.func133 (by kernel_rfl) rfl #[.int .i64 a1_0] rfl (by (try simp only [List.map_toArray, List.map_cons, List.map_nil]); first | done | rfl | (simp only [List.length_drop, List.length_take]; rfl)) ?_; (with_reducible refine (table_number.calls a1_0 true _ A70.out).mono ?_); rintro e w' ⟨rfl, ⟨nd, rfl⟩⟩; refine ⟨_, rfl, ?_⟩) | (go_at_call 67; (with_reducible refine (table_in.calls a1_2 0 9 true _ A72.out).mono ?_); rintro e w' ⟨rfl, ⟨nd, rfl⟩⟩))
                    go_ret
                    exact ⟨by first | rfl | (simp [errW_none, errW_some] <;> rfl) | (simp [*, errW_none, errW_some] <;> rfl), by repeat (first | (with_reducible first | exact HB.out | apply below_alloc | apply pw_below_drewN | apply below_drew1 | refine below_set ?_ GE103.out | refine below_set ?_ GE104.out) | exact HB.out)⟩
                · replace c73 := Bool.eq_false_iff.mpr c73
                  subst c73
                  have H1 : (some false) = some r := by rw [if_neg (show ¬ (false = true) by decide)] at H; exact H
                  clear H
                  have H := H1
                  clear H1
                  obtain rfl := Option.some.inj H
                  have hnb79 := NB104_103.out
                  have hnc79 := NB103_104.out
                  have hcz80_0 : wc.cell? ⟨gb104, 0, none⟩ = some (.int .i64 a1_0) := (blk_cell BK104.out 0).trans rfl
                  have hcz80_1 : wc.cell? ⟨gb104, 1, none⟩ = some (.string a1_1) := (blk_cell BK104.out 1).trans rfl
                  have hcz80_2 : wc.cell? ⟨gb104, 2, none⟩ = some (.int .i64 a1_2) := (blk_cell BK104.out 2).trans rfl
                  have hcz80_3 : wc.cell? ⟨gb104, 3, none⟩ = some (.int .i64 a1_3) := (blk_cell BK104.out 3).trans rfl
                  have hcz80_4 : wc.cell? ⟨gb104, 4, none⟩ = some (.bool a1_4) := (blk_cell BK104.out 4).trans rfl
                  have hcz80_5 : wc.cell? ⟨gb104, 5, none⟩ = some (.int .i64 a1_5) := (blk_cell BK104.out 5).trans rfl
                  have hcz80_6 : wc.cell? ⟨gb104, 6, none⟩ = some (.int .i64 a1_6) := (blk_cell BK104.out 6).trans rfl
                  have hfz80_0 := blk_frozen BK104.out 0
                  have hfz80_1 := blk_frozen BK104.out 1
                  have hfz80_2 := blk_frozen BK104.out 2
                  have hfz80_3 := blk_frozen BK104.out 3
                  have hfz80_4 := blk_frozen BK104.out 4
                  have hfz80_5 := blk_frozen BK104.out 5
                  have hfz80_6 := blk_frozen BK104.out 6
                  go_wp2_with (first | (go_at_call 132; (with_reducible refine (table_keyed.calls a1_5 false _ A45.out).mono ?_); rintro e w' ⟨rfl, ⟨nd, rfl⟩⟩) | ((with_reducible refine gate_callee (f := 133) rfl ?_); refine goesL_ (some 53) rfl rfl Tryz.func133 (by kernel_rfl) rfl #[.int .i64 a1_0] rfl (by (try simp only [List.map_toArray, List.map_cons, List.map_nil]); first | done | rfl | (simp only [List.length_drop, List.length_take]; rfl)) ?_; (with_reducible refine (table_number.calls a1_0 true _ A70.out).mono ?_); rintro e w' ⟨rfl, ⟨nd, rfl⟩⟩; refine ⟨_, rfl, ?_⟩) | (go_at_call 67; (with_reducible refine (table_in.calls a1_2 0 9 false _ A72.out).mono ?_); rintro e w' ⟨rfl, ⟨nd, rfl⟩⟩))
                  go_ret
                  exact ⟨by first | rfl | (simp [errW_none, errW_some] <;> rfl) | (simp [*, errW_none, errW_some] <;> rfl), by repeat (first | (with_reducible first | exact HB.out | apply below_alloc | apply pw_below_drewN | apply below_drew1 | refine below_set ?_ GE103.out | refine below_set ?_ GE104.out) | exact HB.out)⟩
              · replace c71 := Bool.eq_false_iff.mpr c71
                subst c71
                have H1 : (some false) = some r := by rw [if_neg (show ¬ (false = true) by decide)] at H; exact H
                clear H
                have H := H1
                clear H1
                obtain rfl := Option.some.inj H
                have hnb81 := NB104_103.out
                have hnc81 := NB103_104.out
                have hcz82_0 : wc.cell? ⟨gb104, 0, none⟩ = some (.int .i64 a1_0) := (blk_cell BK104.out 0).trans rfl
                have hcz82_1 : wc.cell? ⟨gb104, 1, none⟩ = some (.string a1_1) := (blk_cell BK104.out 1).trans rfl
                have hcz82_2 : wc.cell? ⟨gb104, 2, none⟩ = some (.int .i64 a1_2) := (blk_cell BK104.out 2).trans rfl
                have hcz82_3 : wc.cell? ⟨gb104, 3, none⟩ = some (.int .i64 a1_3) := (blk_cell BK104.out 3).trans rfl
                have hcz82_4 : wc.cell? ⟨gb104, 4, none⟩ = some (.bool a1_4) := (blk_cell BK104.out 4).trans rfl
                have hcz82_5 : wc.cell? ⟨gb104, 5, none⟩ = some (.int .i64 a1_5) := (blk_cell BK104.out 5).trans rfl
                have hcz82_6 : wc.cell? ⟨gb104, 6, none⟩ = some (.int .i64 a1_6) := (blk_cell BK104.out 6).trans rfl
                have hfz82_0 := blk_frozen BK104.out 0
                have hfz82_1 := blk_frozen BK104.out 1
                have hfz82_2 := blk_frozen BK104.out 2
                have hfz82_3 := blk_frozen BK104.out 3
                have hfz82_4 := blk_frozen BK104.out 4
                have hfz82_5 := blk_frozen BK104.out 5
                have hfz82_6 := blk_frozen BK104.out 6
                go_wp2_with (first | (go_at_call 132; (with_reducible refine (table_keyed.calls a1_5 false _ A45.out).mono ?_); rintro e w' ⟨rfl, ⟨nd, rfl⟩⟩) | ((with_reducible refine gate_callee (f := 133) rfl ?_); refine goesL_ (some 53) rfl rfl Tryz.func133 (by kernel_rfl) rfl #[.int .i64 a1_0] rfl (by (try simp only [List.map_toArray, List.map_cons, List.map_nil]); first | done | rfl | (simp only [List.length_drop, List.length_take]; rfl)) ?_; (with_reducible refine (table_number.calls a1_0 false _ A70.out).mono ?_); rintro e w' ⟨rfl, ⟨nd, rfl⟩⟩; refine ⟨_, rfl, ?_⟩))
                go_ret
                exact ⟨by first | rfl | (simp [errW_none, errW_some] <;> rfl) | (simp [*, errW_none, errW_some] <;> rfl), by repeat (first | (with_reducible first | exact HB.out | apply below_alloc | apply pw_below_drewN | apply below_drew1 | refine below_set ?_ GE103.out | refine below_set ?_ GE104.out) | exact HB.out)⟩

end Go.Proofs.YthikfifoomfjgaaGreat.PA
