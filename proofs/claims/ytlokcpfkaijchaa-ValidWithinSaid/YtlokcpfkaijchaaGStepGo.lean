/- Contract of valid.step: the way with a record; and all ways. -/
import Derived.Test.YtlokcpfkaijchaaGStep
namespace Go.Proofs.Ytlokcpfkaijchaa.PA
open Go.RowKit Go.Proofs.YtlokcpfkaijchaaW.PrintWords Go.Proofs.YtlokcpfkaijchaaW.PrintLast Go.Proofs.YtlokcpfkaijchaaW.PrintMore
set_option linter.unusedVariables false
set_option linter.unusedSimpArgs false
section
variable (A0 : Option Addr) (c0 : Nat) (M : List S77) (A1 : Option Addr) (c1 : Nat) (E : List S81) (b : List Int) (A : Option Addr) (c : Nat)
  (w0 w : World) (HB : Below w0.heap.size w0 w) (v : Value) (l : List S40) (x : S40) (HV : Kd.R k40 40 w w0.heap.size (fun _ => True) v (l ++ [x]))
  (hr0 : Kd.C k77 w0 A0 M.length M) (hc0 : M.length ≤ c0) (hr1 : Kd.C k81 w0 A1 E.length E) (hc1 : E.length ≤ c1)
  (hr : Kd.C (Kd.int .u8) w0 A b.length b) (hc : b.length ≤ c) (hl : l.length ≤ 999998)
include HB HV hr0 hc0 hr1 hc1 hr hc hl
set_option maxHeartbeats 60000000 in
set_option maxRecDepth 100000 in
theorem step_go (k : Nat) (no wire num from_ upto next : Int) (j0 j1 j2 j3 : Int) (j4 : ByteArray) (j5 j6 : Int) (j7 : Bool) (j8 j9 : Int) (o : Option S40) (e : Int) (h : ¬ topBad x b.length) (he : x.f3 ≠ x.f4) (hx : record_Next.f k b x.f3 x.f4 = some (no, wire, num, from_, upto, next, 0))
    (hj : valid_of.f k M E x.f0 x.f1 x.f2.f0 x.f2.f1 x.f2.f2 x.f2.f3 x.f2.f4 x.f2.f5 x.f2.f6 next x.f4 x.f5 no wire num from_ upto = some (j0, j1, j2, j3, j4, j5, j6, j7, j8, j9))
    (hd : doneN b wire from_ upto j0 j1 j2 ⟨j3, j4, j5, j6, j7, j8, j9⟩ (deepOf x no) = some (o, e)) :
    Calls Try.prog 28 #[.agg #[.slice A0 M.length c0, .slice A1 E.length c1], .slice A b.length c, v] w (StepOut w0 (if e = 0 then l ++ [(⟨x.f0, x.f1, x.f2, next, x.f4, x.f5⟩ : S40)] ++ o.toList else []) e) := by
  have HH := Lib.hid h
  have HE := Lib.hid he
  have HX := Lib.hid hx
  have HJ := Lib.hid hj
  have HD := Lib.hid hd
  clear h he hx hj hd
  obtain ⟨L, hL⟩ : ∃ L, L = (if e = 0 then l ++ [(⟨x.f0, x.f1, x.f2, next, x.f4, x.f5⟩ : S40)] ++ o.toList else []) := ⟨_, rfl⟩
  rw [← hL]
  have HL2 := Lib.hid hL
  clear hL
  have HB' := Lib.hid HB
  obtain ⟨g, cap, rfl, hgb, hgl, cells, hcells⟩ := Kd.R_form HV (by simp)
  obtain ⟨cs, hcl, hM, hcc, hfz⟩ := Kd.R_elem HV x (l.length : Int) (by omega) (by simp; omega)
  have hx : (l ++ [x]).getD (l.length : Int).toNat x = x := by simp
  rw [hx] at hM
  obtain rfl := k40_openM hM
  have hn : (l ++ [x]).length = l.length + 1 := by simp
  have HL := Lib.hid hl
  have hK : (l.length : Int).toNat * k40.sz = l.length * 12 := by rw [Int.toNat_natCast]; rfl
  rw [hK] at hcc hfz
  rw [hn] at HV ⊢
  have HV' := Lib.hid HV
  have HCC := Lib.hid hcc
  have HFZ := Lib.hid hfz
  have HR0 := Lib.hid hr0
  have HR1 := Lib.hid hr1
  have HC0 := Lib.hid hc0
  have HC1 := Lib.hid hc1
  have HR := Lib.hid hr
  have HC := Lib.hid hc
  have hbl : b.length ≤ 9223372036854775807 := Kd.C_max hr
  clear HB HV hM hx hcc hfz hcells hcl hn hK hr0 hr1 hc0 hc1 hr hc
  have p9 : w.cell? ⟨g, l.length * 12 + 9, none⟩ = some (.int .i64 x.f3) := HCC.out 9 _ rfl
  have p10 : w.cell? ⟨g, l.length * 12 + 10, none⟩ = some (.int .i64 x.f4) := HCC.out 10 _ rfl
  have p11 : w.cell? ⟨g, l.length * 12 + 11, none⟩ = some (.int .i64 x.f5) := HCC.out 11 _ rfl
  go_enter Try.func28, Try.ntmps28
  go_upto_region 2 with fail
  go_cut [57] from 19 to 57 (fun o wx => o = .bool (decide (topBad x b.length)) ∧ Aside0 (Below w.heap.size w wx) ∧ Aside0 (wx.heap[w.heap.size]? = some (.cells #[.slice A0 M.length c0, .slice A1 E.length c1] 25)))
  case first =>
    have AB := Aside0.mk (al1 w (.cells #[.slice A0 M.length c0, .slice A1 E.length c1] 25))
    have AK := Aside0.mk (heap_alloc_last w (.cells #[.slice A0 M.length c0, .slice A1 E.length c1] 25))
    by_cases t1 : x.f3 < 0
    · have d1 : decide (x.f3 < 0) = true := by simpa using t1
      have dt : decide (topBad x b.length) = true := decide_eq_true (Or.inl t1)
      (have DT := Aside0.mk dt); clear dt; go_big_quiet (fail); go_wp2 ; go_meet; (exact ⟨congrArg Value.bool DT.out.symm, Aside0.mk ((AB.out).nx (pw_below_drewN (Below.refl _ _) _)), Aside0.mk (AK.out)⟩)
    · have d1 : decide (x.f3 < 0) = false := by simpa using t1
      by_cases t2 : x.f3 > x.f4
      · have d2 : decide (x.f3 > x.f4) = true := by simpa using t2
        have dt : decide (topBad x b.length) = true := decide_eq_true (Or.inr (Or.inl t2))
        (have DT := Aside0.mk dt); clear dt; go_big_quiet (fail); go_wp2 ; go_meet; (exact ⟨congrArg Value.bool DT.out.symm, Aside0.mk ((AB.out).nx (pw_below_drewN (Below.refl _ _) _)), Aside0.mk (AK.out)⟩)
      · have d2 : decide (x.f3 > x.f4) = false := by simpa using t2
        by_cases t3 : x.f4 > (b.length : Int)
        · have d3 : decide (x.f4 > (b.length : Int)) = true := by simpa using t3
          have dt : decide (topBad x b.length) = true := decide_eq_true (Or.inr (Or.inr (Or.inl t3)))
          (have DT := Aside0.mk dt); clear dt; go_big_quiet (fail); go_wp2 ; go_meet; (exact ⟨congrArg Value.bool DT.out.symm, Aside0.mk ((AB.out).nx (pw_below_drewN (Below.refl _ _) _)), Aside0.mk (AK.out)⟩)
        · have d3 : decide (x.f4 > (b.length : Int)) = false := by simpa using t3
          by_cases t4 : x.f5 < 1
          · have d4 : decide (x.f5 < 1) = true := by simpa using t4
            have dt : decide (topBad x b.length) = true := decide_eq_true (Or.inr (Or.inr (Or.inr (Or.inl t4))))
            (have DT := Aside0.mk dt); clear dt; go_big_quiet (fail); go_wp2 ; go_meet; (exact ⟨congrArg Value.bool DT.out.symm, Aside0.mk ((AB.out).nx (pw_below_drewN (Below.refl _ _) _)), Aside0.mk (AK.out)⟩)
          · have d4 : decide (x.f5 < 1) = false := by simpa using t4
            by_cases t5 : x.f5 > 64
            · have d5 : decide (x.f5 > 64) = true := by simpa using t5
              have dt : decide (topBad x b.length) = true := decide_eq_true (Or.inr (Or.inr (Or.inr (Or.inr t5))))
              (have DT := Aside0.mk dt); clear dt; go_big_quiet (fail); go_wp2 ; go_meet; (exact ⟨congrArg Value.bool DT.out.symm, Aside0.mk ((AB.out).nx (pw_below_drewN (Below.refl _ _) _)), Aside0.mk (AK.out)⟩)
            · have d5 : decide (x.f5 > 64) = false := by simpa using t5
              have dt : decide (topBad x b.length) = false := decide_eq_false (by rintro (h | h | h | h | h) <;> contradiction)
              (have DT := Aside0.mk dt); clear dt; go_big_quiet (fail); go_wp2 ; go_meet; (exact ⟨congrArg Value.bool DT.out.symm, Aside0.mk ((AB.out).nx (pw_below_drewN (Below.refl _ _) _)), Aside0.mk (AK.out)⟩)

  case rest =>
    obtain ⟨rfl, hb1, hq1⟩ := hcut
    have dt : decide (topBad x b.length) = false := decide_eq_false HH.out
    rw [dt] at *
    clear dt p9 p10 p11
    have HB1 := Lib.hid hb1.out
    have HQ1 := Lib.hid hq1.out
    clear hb1 hq1
    have HW1 := Lib.hid (Kd.R_below HV'.out HB1.out)
    have HCC1 := Lib.hid (top_cells HW1.out)
    have hg1 : g < wc.heap.size := Nat.lt_of_lt_of_le hgl HB1.out.size
    have p9 := HCC1.out.1 9 _ rfl
    have p10 := HCC1.out.1 10 _ rfl
    have hcap : l.length + 1 ≤ cap := (Kd.R_reads' HW1.out).2.1
    have hcap2 : l.length ≤ cap := by omega
    go_upto_region 4 with fail
    go_cut [66] from 58 to 66 (fun o wx => o = .bool (x.f3 == x.f4) ∧ Aside0 (Below wc.heap.size wc wx))
    case first =>
      go_big_quiet (fail); go_wp2; go_meet; (exact ⟨rfl, Aside0.mk (pw_below_drewN (Below.refl _ _) _)⟩)
    case rest =>
      obtain ⟨rfl, hb2⟩ := hcut
      have HB2 := Lib.hid (HB1.out.nx hb2.out)
      have HQ2 := Lib.hid (blk_below HQ1.out hb2.out)
      clear hb2 hg1 p9 p10 HB1 HQ1 HW1 HCC1
      have d1 : (x.f3 == x.f4) = false := by simpa using HE.out
      rw [d1]
      clear d1
      have HW2 := Lib.hid (Kd.R_below HV'.out HB2.out)
      have HCC2 := Lib.hid (top_cells HW2.out)
      have hg2 : g < wc.heap.size := Nat.lt_of_lt_of_le hgl HB2.out.size
      have p9 := HCC2.out.1 9 _ rfl
      have p10 := HCC2.out.1 10 _ rfl
      have HN := Lib.hid (fun (w1 : World) (hb : Below wc.heap.size wc w1) => record_Next.calls k A c b x.f3 x.f4 _ _ _ _ _ _ _ w1 (Kd.C_below HR.out (HB'.out.nx (HB2.out.nx hb))) HC.out HX.out)
      go_upto_region 6 with fail
      go_cut [9, 10, 11] from 72 to 85 (fun p q e1 wx => ∃ gr, p = .pointer (some ⟨gr, 0, none⟩) ∧ q = .int .i64 next ∧ e1 = .int .i64 0 ∧ RecAt wc wx gr no wire num from_ upto)
      case rest =>
        obtain ⟨gr, rfl, rfl, rfl, hge, hbk, hb3⟩ := hcut
        have HW3 := Lib.hid (Kd.R_below HW2.out hb3)
        have HT3 := Lib.hid (top_cells HW3.out)
        have HB3 := Lib.hid (HB'.out.nx (HB2.out.nx hb3))
        have HQ3 := Lib.hid (blk_below HQ2.out hb3)
        have HK3 := Lib.hid hbk
        have hgw : g < wc.heap.size := by have := Kd.R_lt HW3.out g (by simp [Value.ownBlock]); exact this
        have hgr : g ≠ gr := by have := hge; omega
        clear hb3 hbk HB2 HQ2 HW2 HCC2 hg2 p9 p10 HN hge
        have fz9 := HT3.out.2 9
        have p9 := HT3.out.1 9 _ rfl
        go_upto_region 9 with fail
        go_cut [90] from 89 to 92 (fun o wx => o = .int .i64 next ∧ Aside0 (Kd.R k40 40 wx w0.heap.size (fun _ => True) (.slice (some ⟨g, 0, none⟩) (l.length + 1) cap) (l ++ [(⟨x.f0, x.f1, x.f2, next, x.f4, x.f5⟩ : S40)])) ∧ Aside0 (Below w0.heap.size w0 wx) ∧ Aside0 (wx.heap[gr]? = some (.cells #[.int .i64 no, .int .i64 wire, .int .u64 num, .int .i64 from_, .int .i64 upto] 48)) ∧ Aside0 (wx.heap[w.heap.size]? = some (.cells #[.slice A0 M.length c0, .slice A1 E.length c1] 25)))
        case first =>
          go_wp2_with fail
          go_meet
          exact ⟨rfl, Aside0.mk (top_set HW3.out next), Aside0.mk (HB3.out.setCell (p := ⟨g, l.length * 12 + 9, none⟩) hgb _), Aside0.mk (blk_far HK3.out (p := ⟨g, l.length * 12 + 9, none⟩) (Ne.symm hgr) _), Aside0.mk (blk_far HQ3.out (p := ⟨g, l.length * 12 + 9, none⟩) (by show w.heap.size ≠ g; omega) _)⟩
        case rest =>
          obtain ⟨rfl, hw4, hb4, hk4, hq4⟩ := hcut
          have HW4 := Lib.hid hw4.out
          have HB4 := Lib.hid hb4.out
          have HK4 := Lib.hid hk4.out
          have HQ4 := Lib.hid hq4.out
          have HT4 := Lib.hid (top_cells HW4.out)
          have hgw4 : g < wc.heap.size := by have := Kd.R_lt HW4.out g (by simp [Value.ownBlock]); exact this
          have lt1 := blk_lt HK4.out
          have lt2 := blk_lt HQ4.out
          clear hw4 hb4 hk4 hq4 HW3 HT3 HB3 HQ3 HK3 hgw fz9 p9 hgr
          have p0 : wc.cell? ⟨g, l.length * 12, none⟩ = some (.bool x.f0) := HT4.out.1 0 _ rfl
          have p4 := HT4.out.1 4 _ rfl
          have p11 := HT4.out.1 11 _ rfl
          have r0 : wc.cell? ⟨gr, 0, none⟩ = some (.int .i64 no) := (blk_cell HK4.out 0).trans rfl
          go_upto_region 11 with fail
          go_cut [113] from 97 to 113 (fun o wx => o = .bool (x.f0 && (no == 2) && (x.f2.f2 == 9)) ∧ wx = wc)
          case first =>
            cases hE : x.f0 with
            | false =>
              rw [hE] at p0
              go_wp2_with fail
              go_meet
              exact ⟨by rw [hE]; rfl, rfl⟩
            | true =>
              rw [hE] at p0
              cases hN : (no == 2) with
              | false =>
                go_wp2_with fail
                go_meet
                exact ⟨by rw [hE, hN]; rfl, rfl⟩
              | true =>
                go_wp2_with fail
                go_meet
                exact ⟨by rw [hE, hN]; cases (x.f2.f2 == 9) <;> rfl, rfl⟩
          case rest =>
            obtain ⟨rfl, rfl⟩ := hcut
            go_upto_if 113 with fail
            go_cut [12, 113] from 114 to 115 (fun o _ wx => o = .int .i64 (deepOf x no) ∧ wx = wc)
            case first =>
              have f12 := top_good HH.out
              obtain ⟨f1, f2⟩ := f12
              cases hE : (x.f0 && (no == 2) && (x.f2.f2 == 9)) with
              | false =>
                have HDE := Lib.hid (deep_false (x := x) (no := no) hE)
                go_wp2_with fail
                go_meet
                exact ⟨by rw [HDE.out], rfl⟩
              | true =>
                have HDE := Lib.hid (deep_true (x := x) (no := no) hE)
                go_wp2_with fail
                go_meet
                exact ⟨by rw [HDE.out], rfl⟩
            case rest =>
              obtain ⟨rfl, rfl⟩ := hcut
              have HDB := Lib.hid (deep_in (no := no) HH.out)
              generalize deepOf x no = D at *
              clear p0 p4 p11 r0
              have HOF := Lib.hid (fun (w1 : World) (hb : Below wc.heap.size wc w1) => valid_of.calls k A0 c0 M A1 c1 E x.f0 x.f1 x.f2.f0 x.f2.f1 x.f2.f2 x.f2.f3 x.f2.f4 x.f2.f5 x.f2.f6 next x.f4 x.f5 no wire num from_ upto j0 j1 j2 j3 j4 j5 j6 j7 j8 j9 w1 (Kd.C_below HR0.out (HB4.out.nx hb)) HC0.out (Kd.C_below HR1.out (HB4.out.nx hb)) HC1.out HJ.out)
              have HDN := Lib.hid (fun (w1 : World) (hb : Below wc.heap.size wc w1) => valid_done b no wire num from_ upto j0 j1 j2 ⟨j3, j4, j5, j6, j7, j8, j9⟩ D HDB.out A c w0 w1 (HB4.out.nx hb) (fun _ => True) (fun _ _ => trivial) (.slice (some ⟨g, 0, none⟩) (l.length + 1) cap) (l ++ [(⟨x.f0, x.f1, x.f2, next, x.f4, x.f5⟩ : S40)]) (Kd.R_below HW4.out hb) HR.out HC.out (by rw [List.length_append]; have := HL.out; simp only [List.length_singleton]; omega) o e HD.out)
              go_upto_region 13 with fail
              go_cut [13, 11] from 117 to 129 (fun q e1 wx => e1 = .int .i64 e ∧ Aside0 (Kd.R k40 40 wx w0.heap.size (fun _ => True) q (l ++ [(⟨x.f0, x.f1, x.f2, next, x.f4, x.f5⟩ : S40)] ++ o.toList)) ∧ Aside0 (Below w0.heap.size w0 wx))
              case first =>
                have p0 : wc.cell? ⟨g, l.length * 12, none⟩ = some (.bool x.f0) := HT4.out.1 0 _ rfl
                have p1 : wc.cell? ⟨g, l.length * 12 + 1, none⟩ = some (.int .i64 x.f1) := HT4.out.1 1 _ rfl
                have p2 : wc.cell? ⟨g, l.length * 12 + 2, none⟩ = some (.int .i64 x.f2.f0) := HT4.out.1 2 _ rfl
                have p3 : wc.cell? ⟨g, l.length * 12 + 3, none⟩ = some (.string x.f2.f1) := HT4.out.1 3 _ rfl
                have p4 : wc.cell? ⟨g, l.length * 12 + 4, none⟩ = some (.int .i64 x.f2.f2) := HT4.out.1 4 _ rfl
                have p5 : wc.cell? ⟨g, l.length * 12 + 5, none⟩ = some (.int .i64 x.f2.f3) := HT4.out.1 5 _ rfl
                have p6 : wc.cell? ⟨g, l.length * 12 + 6, none⟩ = some (.bool x.f2.f4) := HT4.out.1 6 _ rfl
                have p7 : wc.cell? ⟨g, l.length * 12 + 7, none⟩ = some (.int .i64 x.f2.f5) := HT4.out.1 7 _ rfl
                have p8 : wc.cell? ⟨g, l.length * 12 + 8, none⟩ = some (.int .i64 x.f2.f6) := HT4.out.1 8 _ rfl
                have p9 : wc.cell? ⟨g, l.length * 12 + 9, none⟩ = some (.int .i64 next) := HT4.out.1 9 _ rfl
                have p10 : wc.cell? ⟨g, l.length * 12 + 10, none⟩ = some (.int .i64 x.f4) := HT4.out.1 10 _ rfl
                have p11 : wc.cell? ⟨g, l.length * 12 + 11, none⟩ = some (.int .i64 x.f5) := HT4.out.1 11 _ rfl
                have q0 : wc.cell? ⟨w.heap.size, 0, none⟩ = some (.slice A0 M.length c0) := (blk_cell HQ4.out 0).trans rfl
                have q1 : wc.cell? ⟨w.heap.size, 1, none⟩ = some (.slice A1 E.length c1) := (blk_cell HQ4.out 1).trans rfl
                have r0 : wc.cell? ⟨gr, 0, none⟩ = some (.int .i64 no) := (blk_cell HK4.out 0).trans rfl
                have r1 : wc.cell? ⟨gr, 1, none⟩ = some (.int .i64 wire) := (blk_cell HK4.out 1).trans rfl
                have r2 : wc.cell? ⟨gr, 2, none⟩ = some (.int .u64 num) := (blk_cell HK4.out 2).trans rfl
                have r3 : wc.cell? ⟨gr, 3, none⟩ = some (.int .i64 from_) := (blk_cell HK4.out 3).trans rfl
                have r4 : wc.cell? ⟨gr, 4, none⟩ = some (.int .i64 upto) := (blk_cell HK4.out 4).trans rfl
                clear HX HE HL HCC HFZ HR0 HR1 HC0 HC1 HR HC HDB HW4 HB4 HT4 HQ4 HJ HD HB' hbl hl HH hgb hgl HL2
                go_region_with (first
                  | (go_at_call 50; (with_reducible refine (HOF.out _ ?_).mono ?_); (exact (Below.refl _ _).drew); rintro e2 w2 ⟨rfl, b1⟩; have b2 := (Below.refl wc.heap.size wc).drew.nx b1; have bk := blk_below HK4.out b2; have s0 : w2.cell? ⟨gr, 0, none⟩ = some (.int .i64 no) := (blk_cell bk 0).trans rfl; have s1 : w2.cell? ⟨gr, 1, none⟩ = some (.int .i64 wire) := (blk_cell bk 1).trans rfl; have s2 : w2.cell? ⟨gr, 2, none⟩ = some (.int .u64 num) := (blk_cell bk 2).trans rfl; have s3 : w2.cell? ⟨gr, 3, none⟩ = some (.int .i64 from_) := (blk_cell bk 3).trans rfl; have s4 : w2.cell? ⟨gr, 4, none⟩ = some (.int .i64 upto) := (blk_cell bk 4).trans rfl; have lt3 := blk_lt bk; have BB := Aside0.mk b2; clear b1 b2 bk)
                  | (go_at_call 49; (with_reducible refine (HDN.out _ BB.out).mono ?_); rintro e2 w3 ⟨v3, rfl, h3, b3, _⟩; have HV3 := Aside0.mk h3; have BB3 := Aside0.mk b3; clear h3 b3))
                all_goals (go_wp2; go_meet)
                all_goals exact ⟨rfl, HV3, BB3⟩
              case rest =>
                obtain ⟨rfl, hv5, hb5⟩ := hcut
                have HV5 := Aside0.mk hv5.out
                have HL3 := HL2.out
                clear HL2 hv5
                by_cases he : e = 0
                · subst he
                  rw [if_pos rfl] at HL3
                  have HL4 := Aside0.mk HL3
                  clear HL3
                  go_wp2_with fail
                  go_ret2
                  exact ⟨_, rfl, by rw [HL4.out]; exact HV5.out, hb5.out⟩
                · rw [if_neg he] at HL3
                  subst HL3
                  have d2 : (e != 0) = true := by simpa using he
                  clear he
                  go_wp2_with fail
                  go_ret2
                  exact ⟨_, rfl, Kd.R_nil _ _ _ _ _, hb5.out⟩
      go_region_with (first
        | (go_at_call 48; (with_reducible refine (HN.out _ ?_).mono ?_); (exact (Below.refl _ _).drew); rintro e w2 ⟨rfl, b1⟩; have BB := Aside0.mk ((Below.refl _ _).drew.nx b1); clear b1)
        | (go_at_call 48; (with_reducible refine (HN.out _ ?_).mono ?_); (exact (al1 _ _).drew); rintro e w2 ⟨rfl, b1⟩; have BB := Aside0.mk ((al1 _ _).drew.nx b1); have bk : w2.heap[wc.heap.size]? = some (.cells #[.int .i64 0, .int .i64 0, .int .u64 0, .int .i64 0, .int .i64 0] 48) := blk_below (blk_drew (heap_alloc_last wc _)) b1; have BK := Aside0.mk bk; have lt0 := blk_lt bk; have fz0 : w2.frozen? ⟨wc.heap.size, 0, none⟩ = false := blk_frozen bk 0; have z0 : w2.cell? ⟨wc.heap.size, 0, none⟩ = some (.int .i64 0) := (blk_cell bk 0).trans rfl; have fz1 : w2.frozen? ⟨wc.heap.size, 1, none⟩ = false := blk_frozen bk 1; have z1 : w2.cell? ⟨wc.heap.size, 1, none⟩ = some (.int .i64 0) := (blk_cell bk 1).trans rfl; have fz2 : w2.frozen? ⟨wc.heap.size, 2, none⟩ = false := blk_frozen bk 2; have z2 : w2.cell? ⟨wc.heap.size, 2, none⟩ = some (.int .u64 0) := (blk_cell bk 2).trans rfl; have fz3 : w2.frozen? ⟨wc.heap.size, 3, none⟩ = false := blk_frozen bk 3; have z3 : w2.cell? ⟨wc.heap.size, 3, none⟩ = some (.int .i64 0) := (blk_cell bk 3).trans rfl; have fz4 : w2.frozen? ⟨wc.heap.size, 4, none⟩ = false := blk_frozen bk 4; have z4 : w2.cell? ⟨wc.heap.size, 4, none⟩ = some (.int .i64 0) := (blk_cell bk 4).trans rfl; clear b1 bk)
        | (go_at_call 48; (with_reducible refine (HN.out _ ?_).mono ?_); (exact (Below.refl _ _).drew.alloc (Nat.le_refl _) _); rintro e w2 ⟨rfl, b1⟩; have BB := Aside0.mk (((Below.refl _ _).drew.alloc (Nat.le_refl _) _).nx b1); have bk : w2.heap[wc.heap.size]? = some (.cells #[.int .i64 0, .int .i64 0, .int .u64 0, .int .i64 0, .int .i64 0] 48) := blk_below (heap_alloc_last wc.drew _) b1; have BK := Aside0.mk bk; have lt0 := blk_lt bk; have fz0 : w2.frozen? ⟨wc.heap.size, 0, none⟩ = false := blk_frozen bk 0; have z0 : w2.cell? ⟨wc.heap.size, 0, none⟩ = some (.int .i64 0) := (blk_cell bk 0).trans rfl; have fz1 : w2.frozen? ⟨wc.heap.size, 1, none⟩ = false := blk_frozen bk 1; have z1 : w2.cell? ⟨wc.heap.size, 1, none⟩ = some (.int .i64 0) := (blk_cell bk 1).trans rfl; have fz2 : w2.frozen? ⟨wc.heap.size, 2, none⟩ = false := blk_frozen bk 2; have z2 : w2.cell? ⟨wc.heap.size, 2, none⟩ = some (.int .u64 0) := (blk_cell bk 2).trans rfl; have fz3 : w2.frozen? ⟨wc.heap.size, 3, none⟩ = false := blk_frozen bk 3; have z3 : w2.cell? ⟨wc.heap.size, 3, none⟩ = some (.int .i64 0) := (blk_cell bk 3).trans rfl; have fz4 : w2.frozen? ⟨wc.heap.size, 4, none⟩ = false := blk_frozen bk 4; have z4 : w2.cell? ⟨wc.heap.size, 4, none⟩ = some (.int .i64 0) := (blk_cell bk 4).trans rfl; clear b1 bk))
      all_goals (go_wp2; go_meet)
      all_goals first | exact ⟨_, rfl, rfl, rfl, recAt_set BB.out BK.out⟩ | exact ⟨_, rfl, rfl, rfl, recAt_new BB.out⟩
theorem valid_step (k : Nat) (r1 : List S40) (r2 : Int) (h : stepF k M E b l x = some (r1, r2)) :
    Calls Try.prog 28 #[.agg #[.slice A0 M.length c0, .slice A1 E.length c1], .slice A b.length c, v] w (StepOut w0 r1 r2) := by
  unfold stepF at h
  by_cases hb : topBad x b.length
  · rw [if_pos hb] at h
    obtain ⟨rfl, rfl⟩ : [] = r1 ∧ 1 = r2 := by simpa using h
    apply step_bad (x := x) (l := l) <;> assumption
  rw [if_neg hb] at h
  by_cases he : x.f3 = x.f4
  · rw [if_pos he] at h
    obtain ⟨rfl, rfl⟩ : l = r1 ∧ 0 = r2 := by simpa using h
    apply step_end (x := x) (l := l) <;> assumption
  rw [if_neg he] at h
  cases hx : record_Next.f k b x.f3 x.f4 with
  | none => rw [hx] at h; cases h
  | some r =>
    obtain ⟨no, wire, num, from_, upto, next, e⟩ := r
    rw [hx] at h
    simp only [Option.bind_some] at h
    by_cases hn : e = 0
    · subst hn
      rw [if_pos rfl] at h
      cases hj : valid_of.f k M E x.f0 x.f1 x.f2.f0 x.f2.f1 x.f2.f2 x.f2.f3 x.f2.f4 x.f2.f5 x.f2.f6 next x.f4 x.f5 no wire num from_ upto with
      | none => rw [hj] at h; cases h
      | some j =>
        obtain ⟨j0, j1, j2, j3, j4, j5, j6, j7, j8, j9⟩ := j
        rw [hj] at h
        simp only [Option.bind_some] at h
        cases hd : doneN b wire from_ upto j0 j1 j2 ⟨j3, j4, j5, j6, j7, j8, j9⟩ (deepOf x no) with
        | none => rw [hd] at h; cases h
        | some d =>
          obtain ⟨o, e⟩ := d
          rw [hd] at h
          simp only [Option.bind_some] at h
          have hg := step_go A0 c0 M A1 c1 E b A c w0 w HB v l x HV hr0 hc0 hr1 hc1 hr hc hl k no wire num from_ upto next j0 j1 j2 j3 j4 j5 j6 j7 j8 j9 o e hb he hx hj hd
          by_cases h0 : e = 0
          · rw [if_pos h0] at h hg
            obtain ⟨rfl, rfl⟩ : l ++ [(⟨x.f0, x.f1, x.f2, next, x.f4, x.f5⟩ : S40)] ++ o.toList = r1 ∧ 0 = r2 := by simpa using h
            rw [h0] at hg
            exact hg
          · rw [if_neg h0] at h hg
            obtain ⟨rfl, rfl⟩ : [] = r1 ∧ e = r2 := by simpa using h
            exact hg
    · rw [if_neg hn] at h
      obtain ⟨rfl, rfl⟩ : [] = r1 ∧ e = r2 := by simpa using h
      exact step_next A0 c0 M A1 c1 E b A c w0 w HB v l x HV hr0 hc0 hr1 hc1 hr hc hl k no wire num from_ upto next e hb he hx hn
end
end Go.Proofs.Ytlokcpfkaijchaa.PA
