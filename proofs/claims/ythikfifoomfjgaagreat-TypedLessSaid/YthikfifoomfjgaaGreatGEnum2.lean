/- Contract of table.enum: may an enum be? -/
import Derived.Test.YthikfifoomfjgaaGreatGEnum
namespace Go.Proofs.YthikfifoomfjgaaGreat.PA
open Go.RowKit Go.Proofs.YthikfifoomfjgaaGreatW.PrintWords Go.Proofs.YthikfifoomfjgaaGreatW.PrintLast Go.Proofs.YthikfifoomfjgaaGreatW.PrintMore
set_option linter.unusedVariables false
set_option linter.unusedSimpArgs false
/-- A list of texts, and one of numbers, that a machine can have. -/
def okNames (l : List ByteArray) : Bool := l.all (fun s => decide (s.size ≤ 9223372036854775807)) && decide (l.length ≤ 1000000)
def okNums (l : List Int) : Bool := l.all (fun n => decide (-9223372036854775808 ≤ n) && decide (n ≤ 9223372036854775807)) && decide (l.length ≤ 1000000)
theorem okNames_out {l : List ByteArray} (h : okNames l = true) : (∀ s ∈ l, s.size ≤ maxLen) ∧ l.length ≤ 1000000 := by
  simpa [okNames, maxLen] using h
theorem okNums_out {l : List Int} (h : okNums l = true) : (∀ n ∈ l, (Lit.int .i64 n).wf = true) ∧ l.length ≤ 1000000 := by
  have h' : (∀ n ∈ l, -9223372036854775808 ≤ n ∧ n ≤ 9223372036854775807) ∧ l.length ≤ 1000000 := by simpa [okNums] using h
  exact ⟨fun n hn => WalkArith.wf_i64 (h'.1 n hn), h'.2⟩
def enumB (e : S79) : Bool := decide (1 ≤ e.f1.length ∧ e.f1.length ≤ 30) && (decide (e.f2.length = e.f1.length) && (decide e.f1.Nodup && (decide e.f2.Nodup && (decide (e.f2.getD 0 0 = 0) && !(e.f2.any wideB)))))
theorem ret_bool2 {a b : Bool} (h : a = b) : Ending.returned (.bool a) = .returned (.bool b) := by rw [h]
set_option maxHeartbeats 8000000 in
set_option maxRecDepth 100000 in
theorem table_enum (x : S79) (A1 : Option Addr) (c1 : Nat) (A2 : Option Addr) (c2 : Nat) (w : World) (h1 : Kd.string.C w A1 x.f1.length x.f1) (h2 : (Kd.int .i64).C w A2 x.f2.length x.f2) (hn : okNames x.f1 = true) (hm : okNums x.f2 = true) :
    Calls Tryz.prog 69 #[.agg #[.string x.f0, .slice A1 x.f1.length c1, .slice A2 x.f2.length c2]] w fun e w' => e = .returned (.bool (enumB x)) ∧ Below w.heap.size w w' := by
  obtain ⟨x0, V, N⟩ := x
  simp only at *
  have HV := Lib.hid h1
  have HN := Lib.hid h2
  obtain ⟨hn1, hn2⟩ := okNames_out hn
  obtain ⟨hm1, hm2⟩ := okNums_out hm
  have HN1 := Lib.hid hn1
  have HM1 := Lib.hid hm1
  clear h1 h2 hn hm hn1 hm1
  by_cases t1 : 1 ≤ V.length ∧ V.length ≤ 30
  · have hin : table_in.f (V.length : Int) 1 30 = some true := by unfold table_in.f; rw [if_pos (by omega)]; simp; omega
    have HIN := Lib.hid hin
    have z1 : decide (1 ≤ V.length ∧ V.length ≤ 30) = true := by simpa using t1
    obtain ⟨t1a, t1b⟩ := t1
    clear hin
    by_cases t2 : N.length = V.length
    · have z2 : decide (N.length = V.length) = true := by simpa using t2
      have t2b : (N.length == V.length) = true := by simpa using t2
      have t2c : ((N.length : Int) == (V.length : Int)) = true := by simp; omega
      have t2d : (N.length : Int) = (V.length : Int) := by omega
      have T2 := Aside0.mk t2d
      clear t2d
      have t2p : 0 < N.length := by omega
      by_cases t3 : V.Nodup
      · have HU1 : Hid (decide V.Nodup = true) := by show decide V.Nodup = true; simpa using t3
        by_cases t4 : N.Nodup
        · have HU2 : Hid (decide N.Nodup = true) := by show decide N.Nodup = true; simpa using t4
          have e : enumB ⟨x0, V, N⟩ = (decide (N.getD 0 0 = 0) && !(N.any wideB)) := by
            unfold enumB
            simp only
            rw [z1, z2, HU1.out, HU2.out]
            simp only [Bool.true_and]
          obtain ⟨ad, rfl, hc0⟩ := scalar_at HN.out 0 t2p
          have hg : N[0] = N.getD 0 0 := by simp [List.getD, t2p]
          rw [hg, show ad.add 0 = ad by simp [Addr.add]] at hc0
          have bc := World.block_lt_of_cell? w _ hc0
          have HC0 := Aside0.mk hc0
          clear hg hc0 z1 z2 t2 t3 t4
          by_cases t5 : N.getD 0 0 = 0
          · have E : Hid (enumB ⟨x0, V, N⟩ = !(N.any wideB)) := by show _ = _; rw [e, t5]; rfl
            have t5b : (N.getD 0 0 == 0) = true := by simpa using t5
            clear e t5
            generalize N.getD 0 0 = n0 at *
            go_enter Tryz.func69, Tryz.ntmps69
            go_wp2_with (first | (go_at_call 103; (with_reducible refine (contains_wide _ _ _ _ (Kd.C_below HN.out (al1 _ _))).mono ?_); rintro e w2 ⟨rfl, b1⟩; have BB := Aside0.mk ((al1 w _).nx b1); have BK := Aside0.mk (blk_below (heap_alloc_last _ _) b1); clear b1; have q0 : w2.cell? ⟨w.heap.size, 1, none⟩ = some (.slice A1 V.length c1) := (blk_cell BK.out 1).trans rfl; have q1 : w2.cell? ⟨w.heap.size, 2, none⟩ = some (.slice _ N.length c2) := (blk_cell BK.out 2).trans rfl; have bl := blk_lt BK.out) | (go_at_call 67; (with_reducible refine (table_in.calls _ _ _ _ _ HIN.out).mono ?_); rintro e w3 ⟨rfl, ⟨nq, rfl⟩⟩) | (go_at_call 70; (with_reducible refine (uniq_Str _ _ _ _ (Kd.C_below HV.out (pw_below_drewN BB.out nq)) HN1.out hn2).mono ?_); rw [HU1.out]; rintro e w4 ⟨rfl, b1⟩; have b2 := (pw_below_drewN BB.out nq).nx b1; have BK2 := Aside0.mk (blk_below (blk_drewN BK.out nq) b1); clear b1 BB BK q0 q1 bl; have BB := Aside0.mk b2; have BK := BK2; clear BK2 b2; have q0 : w4.cell? ⟨w.heap.size, 1, none⟩ = some (.slice A1 V.length c1) := (blk_cell BK.out 1).trans rfl; have q1 : w4.cell? ⟨w.heap.size, 2, none⟩ = some (.slice _ N.length c2) := (blk_cell BK.out 2).trans rfl; have bl := blk_lt BK.out) | (go_at_call 105; (with_reducible refine (uniq_Int _ _ _ _ (Kd.C_below HN.out BB.out) HM1.out hm2).mono ?_); rw [HU2.out]; rintro e w5 ⟨rfl, b1⟩; have b2 := BB.out.nx b1; have BK2 := Aside0.mk (blk_below BK.out b1); clear b1 BB BK q0 q1 bl; have BB := Aside0.mk b2; have BK := BK2; clear BK2 b2; have q0 : w5.cell? ⟨w.heap.size, 1, none⟩ = some (.slice A1 V.length c1) := (blk_cell BK.out 1).trans rfl; have q1 : w5.cell? ⟨w.heap.size, 2, none⟩ = some (.slice _ N.length c2) := (blk_cell BK.out 2).trans rfl; have bl := blk_lt BK.out; have hc5 := (BB.out.cell (World.block_lt_of_cell? w _ HC0.out)).trans HC0.out))
            go_ret
            exact ⟨ret_bool2 E.out.symm, BB.out⟩
          · have E : Hid (enumB ⟨x0, V, N⟩ = false) := by show _ = _; rw [e, decide_eq_false t5, Bool.false_and]
            have t5b : (N.getD 0 0 == 0) = false := by simpa using t5
            clear e t5
            generalize N.getD 0 0 = n0 at *
            go_enter Tryz.func69, Tryz.ntmps69
            go_wp2_with (first | (go_at_call 103; (with_reducible refine (contains_wide _ _ _ _ (Kd.C_below HN.out (al1 _ _))).mono ?_); rintro e w2 ⟨rfl, b1⟩; have BB := Aside0.mk ((al1 w _).nx b1); have BK := Aside0.mk (blk_below (heap_alloc_last _ _) b1); clear b1; have q0 : w2.cell? ⟨w.heap.size, 1, none⟩ = some (.slice A1 V.length c1) := (blk_cell BK.out 1).trans rfl; have q1 : w2.cell? ⟨w.heap.size, 2, none⟩ = some (.slice _ N.length c2) := (blk_cell BK.out 2).trans rfl; have bl := blk_lt BK.out) | (go_at_call 67; (with_reducible refine (table_in.calls _ _ _ _ _ HIN.out).mono ?_); rintro e w3 ⟨rfl, ⟨nq, rfl⟩⟩) | (go_at_call 70; (with_reducible refine (uniq_Str _ _ _ _ (Kd.C_below HV.out (pw_below_drewN BB.out nq)) HN1.out hn2).mono ?_); rw [HU1.out]; rintro e w4 ⟨rfl, b1⟩; have b2 := (pw_below_drewN BB.out nq).nx b1; have BK2 := Aside0.mk (blk_below (blk_drewN BK.out nq) b1); clear b1 BB BK q0 q1 bl; have BB := Aside0.mk b2; have BK := BK2; clear BK2 b2; have q0 : w4.cell? ⟨w.heap.size, 1, none⟩ = some (.slice A1 V.length c1) := (blk_cell BK.out 1).trans rfl; have q1 : w4.cell? ⟨w.heap.size, 2, none⟩ = some (.slice _ N.length c2) := (blk_cell BK.out 2).trans rfl; have bl := blk_lt BK.out) | (go_at_call 105; (with_reducible refine (uniq_Int _ _ _ _ (Kd.C_below HN.out BB.out) HM1.out hm2).mono ?_); rw [HU2.out]; rintro e w5 ⟨rfl, b1⟩; have b2 := BB.out.nx b1; have BK2 := Aside0.mk (blk_below BK.out b1); clear b1 BB BK q0 q1 bl; have BB := Aside0.mk b2; have BK := BK2; clear BK2 b2; have q0 : w5.cell? ⟨w.heap.size, 1, none⟩ = some (.slice A1 V.length c1) := (blk_cell BK.out 1).trans rfl; have q1 : w5.cell? ⟨w.heap.size, 2, none⟩ = some (.slice _ N.length c2) := (blk_cell BK.out 2).trans rfl; have bl := blk_lt BK.out; have hc5 := (BB.out.cell (World.block_lt_of_cell? w _ HC0.out)).trans HC0.out))
            go_ret
            exact ⟨ret_bool2 E.out.symm, BB.out⟩
        · have HU2 : Hid (decide N.Nodup = false) := by show decide N.Nodup = false; simpa using t4
          have E : Hid (enumB ⟨x0, V, N⟩ = false) := by show _ = _; unfold enumB; simp only; rw [HU2.out]; simp
          clear z1 z2 t2 t3 t4
          go_enter Tryz.func69, Tryz.ntmps69
          go_wp2_with (first | (go_at_call 103; (with_reducible refine (contains_wide _ _ _ _ (Kd.C_below HN.out (al1 _ _))).mono ?_); rintro e w2 ⟨rfl, b1⟩; have BB := Aside0.mk ((al1 w _).nx b1); have BK := Aside0.mk (blk_below (heap_alloc_last _ _) b1); clear b1; have q0 : w2.cell? ⟨w.heap.size, 1, none⟩ = some (.slice A1 V.length c1) := (blk_cell BK.out 1).trans rfl; have q1 : w2.cell? ⟨w.heap.size, 2, none⟩ = some (.slice _ N.length c2) := (blk_cell BK.out 2).trans rfl; have bl := blk_lt BK.out) | (go_at_call 67; (with_reducible refine (table_in.calls _ _ _ _ _ HIN.out).mono ?_); rintro e w3 ⟨rfl, ⟨nq, rfl⟩⟩) | (go_at_call 70; (with_reducible refine (uniq_Str _ _ _ _ (Kd.C_below HV.out (pw_below_drewN BB.out nq)) HN1.out hn2).mono ?_); rw [HU1.out]; rintro e w4 ⟨rfl, b1⟩; have b2 := (pw_below_drewN BB.out nq).nx b1; have BK2 := Aside0.mk (blk_below (blk_drewN BK.out nq) b1); clear b1 BB BK q0 q1 bl; have BB := Aside0.mk b2; have BK := BK2; clear BK2 b2; have q0 : w4.cell? ⟨w.heap.size, 1, none⟩ = some (.slice A1 V.length c1) := (blk_cell BK.out 1).trans rfl; have q1 : w4.cell? ⟨w.heap.size, 2, none⟩ = some (.slice _ N.length c2) := (blk_cell BK.out 2).trans rfl; have bl := blk_lt BK.out) | (go_at_call 105; (with_reducible refine (uniq_Int _ _ _ _ (Kd.C_below HN.out BB.out) HM1.out hm2).mono ?_); rw [HU2.out]; rintro e w5 ⟨rfl, b1⟩; have b2 := BB.out.nx b1; have BK2 := Aside0.mk (blk_below BK.out b1); clear b1 BB BK q0 q1 bl; have BB := Aside0.mk b2; have BK := BK2; clear BK2 b2; have q0 : w5.cell? ⟨w.heap.size, 1, none⟩ = some (.slice A1 V.length c1) := (blk_cell BK.out 1).trans rfl; have q1 : w5.cell? ⟨w.heap.size, 2, none⟩ = some (.slice _ N.length c2) := (blk_cell BK.out 2).trans rfl; have bl := blk_lt BK.out; skip))
          go_ret
          exact ⟨ret_bool2 E.out.symm, BB.out⟩
      · have HU1 : Hid (decide V.Nodup = false) := by show decide V.Nodup = false; simpa using t3
        have E : Hid (enumB ⟨x0, V, N⟩ = false) := by show _ = _; unfold enumB; simp only; rw [HU1.out]; simp
        clear z1 z2 t2 t3
        go_enter Tryz.func69, Tryz.ntmps69
        go_wp2_with (first | (go_at_call 103; (with_reducible refine (contains_wide _ _ _ _ (Kd.C_below HN.out (al1 _ _))).mono ?_); rintro e w2 ⟨rfl, b1⟩; have BB := Aside0.mk ((al1 w _).nx b1); have BK := Aside0.mk (blk_below (heap_alloc_last _ _) b1); clear b1; have q0 : w2.cell? ⟨w.heap.size, 1, none⟩ = some (.slice A1 V.length c1) := (blk_cell BK.out 1).trans rfl; have q1 : w2.cell? ⟨w.heap.size, 2, none⟩ = some (.slice _ N.length c2) := (blk_cell BK.out 2).trans rfl; have bl := blk_lt BK.out) | (go_at_call 67; (with_reducible refine (table_in.calls _ _ _ _ _ HIN.out).mono ?_); rintro e w3 ⟨rfl, ⟨nq, rfl⟩⟩) | (go_at_call 70; (with_reducible refine (uniq_Str _ _ _ _ (Kd.C_below HV.out (pw_below_drewN BB.out nq)) HN1.out hn2).mono ?_); rw [HU1.out]; rintro e w4 ⟨rfl, b1⟩; have b2 := (pw_below_drewN BB.out nq).nx b1; have BK2 := Aside0.mk (blk_below (blk_drewN BK.out nq) b1); clear b1 BB BK q0 q1 bl; have BB := Aside0.mk b2; have BK := BK2; clear BK2 b2; have q0 : w4.cell? ⟨w.heap.size, 1, none⟩ = some (.slice A1 V.length c1) := (blk_cell BK.out 1).trans rfl; have q1 : w4.cell? ⟨w.heap.size, 2, none⟩ = some (.slice _ N.length c2) := (blk_cell BK.out 2).trans rfl; have bl := blk_lt BK.out))
        go_ret
        exact ⟨ret_bool2 E.out.symm, BB.out⟩
    · have t2b : (N.length == V.length) = false := by simpa using t2
      have t2c : ((N.length : Int) == (V.length : Int)) = false := by simp; omega
      have E : Hid (enumB ⟨x0, V, N⟩ = false) := by show _ = _; unfold enumB; simp [t2]
      clear z1 t2
      go_enter Tryz.func69, Tryz.ntmps69
      go_wp2_with (first | (go_at_call 103; (with_reducible refine (contains_wide _ _ _ _ (Kd.C_below HN.out (al1 _ _))).mono ?_); rintro e w2 ⟨rfl, b1⟩; have BB := Aside0.mk ((al1 w _).nx b1); have BK := Aside0.mk (blk_below (heap_alloc_last _ _) b1); clear b1; have q0 : w2.cell? ⟨w.heap.size, 1, none⟩ = some (.slice A1 V.length c1) := (blk_cell BK.out 1).trans rfl; have q1 : w2.cell? ⟨w.heap.size, 2, none⟩ = some (.slice _ N.length c2) := (blk_cell BK.out 2).trans rfl; have bl := blk_lt BK.out) | (go_at_call 67; (with_reducible refine (table_in.calls _ _ _ _ _ HIN.out).mono ?_); rintro e w3 ⟨rfl, ⟨nq, rfl⟩⟩))
      go_ret
      exact ⟨ret_bool2 E.out.symm, pw_below_drewN BB.out _⟩
  · have hin : table_in.f (V.length : Int) 1 30 = some false := by
      unfold table_in.f
      by_cases g : (V.length : Int) ≥ 1
      · rw [if_pos g]; simp; omega
      · rw [if_neg g]
    have HIN := Lib.hid hin
    have E : Hid (enumB ⟨x0, V, N⟩ = false) := by show _ = _; unfold enumB; simp only; rw [decide_eq_false t1, Bool.false_and]
    clear hin t1
    go_enter Tryz.func69, Tryz.ntmps69
    go_wp2_with (first | (go_at_call 103; (with_reducible refine (contains_wide _ _ _ _ (Kd.C_below HN.out (al1 _ _))).mono ?_); rintro e w2 ⟨rfl, b1⟩; have BB := Aside0.mk ((al1 w _).nx b1); have BK := Aside0.mk (blk_below (heap_alloc_last _ _) b1); clear b1; have q0 : w2.cell? ⟨w.heap.size, 1, none⟩ = some (.slice A1 V.length c1) := (blk_cell BK.out 1).trans rfl; have q1 : w2.cell? ⟨w.heap.size, 2, none⟩ = some (.slice _ N.length c2) := (blk_cell BK.out 2).trans rfl; have bl := blk_lt BK.out) | (go_at_call 67; (with_reducible refine (table_in.calls _ _ _ _ _ HIN.out).mono ?_); rintro e w3 ⟨rfl, ⟨nq, rfl⟩⟩))
    go_ret
    exact ⟨ret_bool2 E.out.symm, pw_below_drewN BB.out _⟩
end Go.Proofs.YthikfifoomfjgaaGreat.PA
