/- Contracts of truffleref09.Vals and truffleref09.Same. Contract of truffleref09.Same. -/
import Derived.Test.YthikfifoomfjgaaGreatSame
import Derived.StillTailTactics
import Derived.Deep.QuietTactic
import Derived.BigQuiet
namespace Go.Tr
theorem same_no {α : Type} {x y : α} (h : x ≠ y) : same x y = false := by
  cases hs : same x y with
  | false => rfl
  | true => exact absurd ((same_iff x y).1 hs) h
theorem same_yes {α : Type} {x y : α} (h : x = y) : same x y = true := (same_iff x y).2 h
theorem take_more {α : Type} {xs ys : List α} {k : Nat} (h : xs.take k = ys.take k) (h1 : k < xs.length) (h2 : k < ys.length) (he : xs[k] = ys[k]) : xs.take (k + 1) = ys.take (k + 1) := by
  rw [List.take_succ_eq_append_getElem h1, List.take_succ_eq_append_getElem h2, h, he]
theorem take_all {α : Type} {xs ys : List α} (h : xs.take xs.length = ys.take xs.length) (hl : xs.length = ys.length) : xs = ys := by
  rw [List.take_length, hl, List.take_length] at h; exact h
theorem ne_at {α : Type} {xs ys : List α} {k : Nat} (h1 : k < xs.length) (h2 : k < ys.length) (h : xs[k] ≠ ys[k]) : xs ≠ ys := fun e => h (by subst e; rfl)
theorem below_drewN {B : Nat} {a w : World} (h : RowKit.Below B a w) (q : Nat) : RowKit.Below B a (w.drewN q) := ⟨h.os, h.tape, h.output, h.size, h.block⟩
end Go.Tr
namespace Go.Proofs.YthikfifoomfjgaaGreat
open Go.RowKit Go.Tr
set_option linter.unusedVariables false
set_option linter.unusedSimpArgs false
set_option maxHeartbeats 4000000 in
set_option maxRecDepth 100000 in
theorem ref_vals (L B n : Nat) (hL : L ≤ maxLen)
    (hm : ∀ w cs ds x y, RMsg L B w n cs x → RMsg L B w n ds y → Calls Tryz.prog 14 #[.agg cs.toArray, .agg ds.toArray] w fun e w' => e = .returned (.bool (same x y)) ∧ Below w.heap.size w w')
    (w : World) (v1 v2 : Value) (xs ys : List Val) (hx : RowOf L B w 3 (RVal L B w (RMsg L B w n)) v1 xs) (hy : RowOf L B w 3 (RVal L B w (RMsg L B w n)) v2 ys) :
    Calls Tryz.prog 32 #[v1, v2] w fun e w' => e = .returned (.bool (same xs ys)) ∧ Below w.heap.size w w' := by
  have HX := Lib.hid (fun wr (hb : Below w.heap.size w wr) => hx.imp (R' := RVal L B wr (RMsg L B wr n)) hb fun _ _ _ h => h.below hb)
  have HY := Lib.hid (fun wr (hb : Below w.heap.size w wr) => hy.imp (R' := RVal L B wr (RMsg L B wr n)) hb fun _ _ _ h => h.below hb)
  have HM := Lib.hid hm
  clear hm
  obtain ⟨a1, cap1, rfl, q0, q1, q2, -, -⟩ := hx
  obtain ⟨a2, cap2, rfl, r0, r1, r2, -, -⟩ := hy
  unfold maxLen at hL q2 r2
  by_cases hl : xs.length = ys.length
  · have hne : ((xs.length : Int) != (ys.length : Int)) = false := by rw [hl]; simp
    have HL := Lib.hid hl
    have hl1 : xs.length ≤ ys.length := by omega
    have hl2 : ys.length ≤ xs.length := by omega
    clear hl
    go_enter Tryz.func32, Tryz.ntmps32
    go_wp2
    go_loopw [5] (fun i wr => ∃ k : Nat, k ≤ xs.length ∧ i = .int .i64 k ∧ Hid (Below w.heap.size w wr) ∧ Hid (xs.take k = ys.take k)) (fun i _ => xs.length - (intOf i).toNat)
    case atStart => exact ⟨0, by omega, rfl, Below.refl _ _, rfl⟩
    case round =>
      obtain ⟨k, hk, rfl, hb, hall⟩ := hrel
      obtain ⟨wo, rfl⟩ : ∃ wo, wo = wr := ⟨_, rfl⟩
      by_cases hlt : k < xs.length
      · have hlt2 : k < ys.length := by omega
        obtain ⟨b1, o1, c0, c1, c2, e1, -, m0, m1, m2, n0, n1, n2, rx⟩ := (HX.out wo hb.out).get3 (rval_three L B n) k hlt
        obtain ⟨b2, o2, d0, d1, d2, e2, -, p0, p1, p2, z0, z1, z2, ry⟩ := (HY.out wo hb.out).get3 (rval_three L B n) k hlt2
        subst e1 e2
        have bl := block_lt_of_cell m0
        have bl2 := block_lt_of_cell p0
        obtain ⟨c, e, -, -, -, r4⟩ := rx
        cases e
        obtain ⟨c', e', -, -, -, s4⟩ := ry
        cases e'
        have R4 := Lib.hid r4
        have S4 := Lib.hid s4
        obtain ⟨a4, cap4, rfl, y0, y1, y2, -, -⟩ := r4
        obtain ⟨a5, cap5, rfl, x0, x1, x2, -, -⟩ := s4
        unfold maxLen at y2 x2
        cases hn : (xs[k].n != ys[k].n) with
        | true =>
          have HN := Lib.hid (same_no (ne_at hlt hlt2 (fun e => by rw [e] at hn; simp at hn)))
          have hn2 : ¬ xs[k].n = ys[k].n := by simpa using hn
          have hn3 : decide (xs[k].n = ys[k].n) = false := by simpa using hn
          go_wp2
          go_quiet (fail)
          go_wp2
          exact ⟨rfl, _, results_tmp (t := 4) rfl _ _ _, by rw [HN.out]; rfl, below_drewN hb.out _⟩
        | false =>
          have hn2 : xs[k].n = ys[k].n := by simpa using hn
          have HNE := Lib.hid hn2
          clear hn2
          cases hs : (xs[k].s.toList == ys[k].s.toList) with
          | false =>
            have HN := Lib.hid (same_no (ne_at hlt hlt2 (fun e => by rw [e] at hs; simp at hs)))
            go_wp2
            go_quiet (fail)
            go_wp2
            exact ⟨rfl, _, results_tmp (t := 4) rfl _ _ _, by rw [HN.out]; rfl, below_drewN hb.out _⟩
          | true =>
            have hs2 : xs[k].s = ys[k].s := by
              have h := bytes_same xs[k].s ys[k].s
              rw [hs] at h; simpa using h
            have HSE := Lib.hid hs2
            clear hs2
            by_cases hm : xs[k].m.length = ys[k].m.length
            · have hme : ((xs[k].m.length : Int) != (ys[k].m.length : Int)) = false := by rw [hm]; simp
              have HME := Lib.hid hm
              have hm1 : xs[k].m.length ≤ ys[k].m.length := by omega
              clear hm
              go_wp2
              go_quiet (fail)
              go_wp2
              have HW := Lib.hid (below_drewN (Below.refl wo.heap.size wo) nq)
              generalize wo.drewN nq = w2 at HW ⊢
              go_loopw [6] (fun j wr => ∃ q : Nat, q ≤ xs[k].m.length ∧ j = .int .i64 q ∧ Hid (Below wo.heap.size wo wr) ∧ Hid (xs[k].m.take q = ys[k].m.take q)) (fun j _ => xs[k].m.length - (intOf j).toNat)
              case atStart => exact ⟨0, by omega, rfl, HW.out, rfl⟩
              case round =>
                obtain ⟨q, hq, rfl, hb2, hall2⟩ := hrel
                have g2 := (hb2.out.cell (block_lt_of_cell m2)).trans m2
                have h2 := (hb2.out.cell (block_lt_of_cell p2)).trans p2
                by_cases hlq : q < xs[k].m.length
                · have hlq2 : q < ys[k].m.length := by omega
                  obtain ⟨b3, o3, f0, e3, -, s0, t0, rz⟩ := (R4.out.imp (R' := RMsg L B wr n) hb2.out fun _ _ _ h => RMsg.below hb2.out n h).get1 (rmsg_one L B n) q hlq
                  obtain ⟨b4, o4, h0, e4, -, s1, t1, rz2⟩ := (S4.out.imp (R' := RMsg L B wr n) hb2.out fun _ _ _ h => RMsg.below hb2.out n h).get1 (rmsg_one L B n) q hlq2
                  cases e3
                  cases e4
                  have bl3 := block_lt_of_cell s0
                  have bl4 := block_lt_of_cell s1
                  have HI := Lib.hid fun w' (hb : Below wr.heap.size wr w') => HM.out w' [f0] [h0] _ _ (RMsg.below hb n rz) (RMsg.below hb n rz2)
                  clear rz rz2
                  cases hsm : same xs[k].m[q] ys[k].m[q] with
                  | true =>
                    rw [hsm] at HI
                    have HT := Lib.hid (take_more hall2.out hlq hlq2 ((same_iff _ _).1 hsm))
                    clear hsm
                    go_wp2_with fail
                    go_still_tail 16, (by kernel_rfl)
                    change wpList _ _ _ _ _ wr.drew
                    have HD5 := Lib.hid ((Below.refl wr.heap.size wr).drew)
                    generalize wr.drew = w5 at HD5 ⊢
                    go_wp2_with (go_at_call 14; (with_reducible refine (HI.out _ HD5.out).mono ?_); rintro e w6 ⟨rfl, b6⟩)
                    refine ⟨⟨q + 1, by omega, rfl, hb2.out.nx (HD5.out.nx b6), HT.out⟩, ?_⟩
                    simp only [intOf, Int.toNat_natCast]
                    omega
                  | false =>
                    rw [hsm] at HI
                    have HN := Lib.hid (same_no (ne_at hlt hlt2 (fun e => by
                      have h : xs[k].m[q] = ys[k].m[q] := by simp only [e]
                      rw [h, same_yes rfl] at hsm; cases hsm)))
                    clear hsm
                    go_wp2_with fail
                    go_still_tail 16, (by kernel_rfl)
                    change wpList _ _ _ _ _ wr.drew
                    have HD5 := Lib.hid ((Below.refl wr.heap.size wr).drew)
                    generalize wr.drew = w5 at HD5 ⊢
                    go_wp2_with (go_at_call 14; (with_reducible refine (HI.out _ HD5.out).mono ?_); rintro e w6 ⟨rfl, b6⟩)
                    exact ⟨rfl, _, results_tmp (t := 4) rfl _ _ _, by rw [HN.out]; rfl, hb.out.nx (hb2.out.nx (HD5.out.nx b6))⟩
                · have hql : q = xs[k].m.length := by omega
                  subst hql
                  have HT := Lib.hid (take_more hall.out hlt hlt2 (by
                    have h3 := take_all hall2.out HME.out
                    have h1 := HNE.out
                    have h2 := HSE.out
                    cases hx : xs[k]; cases hy : ys[k]
                    rw [hx, hy] at h1 h2 h3
                    simp only at h1 h2 h3
                    rw [h1, h2, h3]))
                  go_wp2
                  refine ⟨⟨k + 1, by omega, rfl, hb.out.nx hb2.out, HT.out⟩, ?_⟩
                  simp only [intOf, Int.toNat_natCast]
                  omega
            · have hme : ((xs[k].m.length : Int) != (ys[k].m.length : Int)) = true := by simp; omega
              have HN := Lib.hid (same_no (ne_at hlt hlt2 (fun e => hm (by rw [e]))))
              clear hm
              go_wp2
              go_quiet (fail)
              go_wp2
              exact ⟨rfl, _, results_tmp (t := 4) rfl _ _ _, by rw [HN.out]; rfl, below_drewN hb.out _⟩
      · have hkl : k = xs.length := by omega
        subst hkl
        have HN := Lib.hid (same_yes (take_all hall.out HL.out))
        go_wp2
        exact ⟨rfl, _, results_tmp (t := 4) rfl _ _ _, by rw [HN.out]; rfl, hb.out⟩
  · have hne : ((xs.length : Int) != (ys.length : Int)) = true := by simp; omega
    have HN := Lib.hid (same_no (fun e => hl (by rw [e])) : same xs ys = false)
    clear hl
    go_enter Tryz.func32, Tryz.ntmps32
    go_wp2
    exact ⟨rfl, _, results_tmp (t := 4) rfl _ _ _, by rw [HN.out]; rfl, Below.refl _ _⟩
end Go.Proofs.YthikfifoomfjgaaGreat
namespace Go.Proofs.YthikfifoomfjgaaGreat
open Go.RowKit Go.Tr
set_option linter.unusedVariables false
set_option linter.unusedSimpArgs false
set_option maxHeartbeats 4000000 in
set_option maxRecDepth 100000 in
theorem ref_same_step (L B n : Nat) (hL : L ≤ maxLen)
    (hm : ∀ w cs ds x y, RMsg L B w n cs x → RMsg L B w n ds y → Calls Tryz.prog 14 #[.agg cs.toArray, .agg ds.toArray] w fun e w' => e = .returned (.bool (same x y)) ∧ Below w.heap.size w w')
    (w : World) (cs ds : List Value) (x y : Msg) (hx : RMsg L B w (n + 1) cs x) (hy : RMsg L B w (n + 1) ds y) :
    Calls Tryz.prog 14 #[.agg cs.toArray, .agg ds.toArray] w fun e w' => e = .returned (.bool (same x y)) ∧ Below w.heap.size w w' := by
  obtain ⟨c, rfl, hx⟩ := hx
  obtain ⟨d, rfl, hy⟩ := hy
  have hxy : same x y = same x.f y.f := by
    apply Eq.symm; apply same_bool
    obtain ⟨f⟩ := x; obtain ⟨g⟩ := y
    rw [same_iff]; simp [Msg.f]
  rw [hxy]
  clear hxy
  obtain ⟨xs, hxs⟩ : ∃ xs, xs = x.f := ⟨_, rfl⟩
  obtain ⟨ys, hys⟩ : ∃ ys, ys = y.f := ⟨_, rfl⟩
  rw [← hxs] at hx ⊢
  rw [← hys] at hy ⊢
  clear hxs hys
  have HX := Lib.hid (fun wr (hb : Below w.heap.size w wr) => hx.imp (R' := RSlot L B wr (RMsg L B wr n)) hb fun _ _ _ h => h.below hb)
  have HY := Lib.hid (fun wr (hb : Below w.heap.size w wr) => hy.imp (R' := RSlot L B wr (RMsg L B wr n)) hb fun _ _ _ h => h.below hb)
  have HM := Lib.hid (ref_vals L B n hL hm)
  clear hm
  obtain ⟨a1, cap1, rfl, q0, q1, q2, -, -⟩ := hx
  obtain ⟨a2, cap2, rfl, r0, r1, r2, -, -⟩ := hy
  unfold maxLen at hL q2 r2
  by_cases hl : xs.length = ys.length
  · have hne : ((xs.length : Int) != (ys.length : Int)) = false := by rw [hl]; simp
    have HL := Lib.hid hl
    have hl1 : xs.length ≤ ys.length := by omega
    have hl2 : ys.length ≤ xs.length := by omega
    clear hl
    go_enter Tryz.func14, Tryz.ntmps14
    go_wp2
    go_loopw [5] (fun i wr => ∃ k : Nat, k ≤ xs.length ∧ i = .int .i64 k ∧ Hid (Below w.heap.size w wr) ∧ wr.cell? ⟨w.heap.size, 0, none⟩ = some (.slice a1 xs.length cap1) ∧ wr.cell? ⟨w.heap.size + 1, 0, none⟩ = some (.slice a2 ys.length cap2) ∧ w.heap.size + 1 < wr.heap.size ∧ Hid (xs.take k = ys.take k)) (fun i _ => xs.length - (intOf i).toNat)
    case atStart => exact ⟨0, by omega, rfl, al2 _ _ _, by simp [go_sem], by simp [go_sem], by simp, rfl⟩
    case round =>
      obtain ⟨k, hk, rfl, hb, hx0, hx1, hz, hall⟩ := hrel
      by_cases hlt : k < xs.length
      · have hlt2 : k < ys.length := by omega
        obtain ⟨b1, o1, c0, c1, c2, e1, -, m0, m1, m2, n0, n1, n2, rx⟩ := (HX.out wr hb.out).get3 (rslot_three L B n) k hlt
        obtain ⟨b2, o2, d0, d1, d2, e2, -, p0, p1, p2, z0, z1, z2, ry⟩ := (HY.out wr hb.out).get3 (rslot_three L B n) k hlt2
        subst e1 e2
        have bl := block_lt_of_cell m0
        have bl2 := block_lt_of_cell p0
        obtain ⟨c, c', e, -, -, r3, r4⟩ := rx
        cases e
        obtain ⟨d, d', e', -, -, s3, s4⟩ := ry
        cases e'
        have HK := Lib.hid fun w' (hb' : Below wr.heap.size wr w') => HM.out w' _ _ _ _ (r3.imp hb' fun _ _ _ h => h.below hb') (s3.imp hb' fun _ _ _ h => h.below hb')
        have HV := Lib.hid fun w' (hb' : Below wr.heap.size wr w') => HM.out w' _ _ _ _ (r4.imp hb' fun _ _ _ h => h.below hb') (s4.imp hb' fun _ _ _ h => h.below hb')
        clear r3 r4 s3 s4
        obtain ⟨bk, hbk⟩ : ∃ b, b = same xs[k].k ys[k].k := ⟨_, rfl⟩
        obtain ⟨bv, hbv⟩ : ∃ b, b = same xs[k].v ys[k].v := ⟨_, rfl⟩
        rw [← hbk] at HK
        rw [← hbv] at HV
        have HBK := Lib.hid hbk
        have HBV := Lib.hid hbv
        clear hbk hbv
        go_wp2_with fail
        go_still_tail 12, (by kernel_rfl)
        change wpList _ _ _ _ _ wr.drew
        have HD5 := Lib.hid ((Below.refl wr.heap.size wr).drew)
        generalize wr.drew = w5 at HD5 ⊢
        go_wp2_with (go_at_call 32; (with_reducible refine (HK.out _ HD5.out).mono ?_); rintro e w6 ⟨rfl, b6⟩)
        have hb6 := HD5.out.nx b6
        have hx6 := (hb6.cell (block_lt_of_cell hx0)).trans hx0
        have hx7 := (hb6.cell (block_lt_of_cell hx1)).trans hx1
        have mm := (hb6.cell (block_lt_of_cell m2)).trans m2
        have pp := (hb6.cell (block_lt_of_cell p2)).trans p2
        have ll := Nat.lt_of_lt_of_le bl hb6.size
        have ll2 := Nat.lt_of_lt_of_le bl2 hb6.size
        have B6 := Lib.hid hb6
        clear hb6 b6
        go_wp2_with fail
        go_still_tail 12, (by kernel_rfl)
        change wpList _ _ _ _ _ w6.drew
        have HD7 := Lib.hid ((Below.refl w6.heap.size w6).drew)
        generalize w6.drew = w7 at HD7 ⊢
        go_wp2_with (go_at_call 32; (with_reducible refine (HV.out _ (B6.out.nx HD7.out)).mono ?_); rintro e w8 ⟨rfl, b8⟩)
        have hb8 := B6.out.nx (HD7.out.nx b8)
        have hx8 := (hb8.cell (block_lt_of_cell hx0)).trans hx0
        have hx9 := (hb8.cell (block_lt_of_cell hx1)).trans hx1
        have mmm := (hb8.cell (block_lt_of_cell m0)).trans m0
        have ppp := (hb8.cell (block_lt_of_cell p0)).trans p0
        have lll := Nat.lt_of_lt_of_le bl hb8.size
        have lll2 := Nat.lt_of_lt_of_le bl2 hb8.size
        have B8 := Lib.hid hb8
        clear hb8 b8 mm pp ll ll2 hx6 hx7
        cases bk with
        | false =>
          have HN := Lib.hid (same_no (ne_at hlt hlt2 (fun e => by have := HBK.out; rw [e, same_yes rfl] at this; cases this)))
          go_quiet (fail)
          go_wp2
          exact ⟨rfl, _, results_tmp (t := 4) rfl _ _ _, by rw [HN.out]; rfl, below_drewN (hb.out.nx B8.out) _⟩
        | true =>
          cases bv with
          | false =>
            have HN := Lib.hid (same_no (ne_at hlt hlt2 (fun e => by have := HBV.out; rw [e, same_yes rfl] at this; cases this)))
            go_quiet (fail)
            go_wp2
            exact ⟨rfl, _, results_tmp (t := 4) rfl _ _ _, by rw [HN.out]; rfl, below_drewN (hb.out.nx B8.out) _⟩
          | true =>
            cases hn : (xs[k].no != ys[k].no) with
            | true =>
              have HN := Lib.hid (same_no (ne_at hlt hlt2 (fun e => by rw [e] at hn; simp at hn)))
              go_quiet (fail)
              go_wp2
              exact ⟨rfl, _, results_tmp (t := 4) rfl _ _ _, by rw [HN.out]; rfl, below_drewN (hb.out.nx B8.out) _⟩
            | false =>
              have hn2 : xs[k].no = ys[k].no := by simpa using hn
              have HT := Lib.hid (take_more hall.out hlt hlt2 (by
                have h1 := (same_iff _ _).1 HBK.out.symm
                have h2 := (same_iff _ _).1 HBV.out.symm
                cases hx : xs[k]; cases hy : ys[k]
                rw [hx, hy] at h1 h2 hn2
                simp only at h1 h2 hn2
                rw [h1, h2, hn2]))
              clear hn2
              go_quiet (fail)
              go_wp2
              refine ⟨⟨k + 1, by omega, rfl, below_drewN (hb.out.nx B8.out) _, hx8, hx9, Nat.lt_of_lt_of_le hz B8.out.size, HT.out⟩, ?_⟩
              simp only [intOf]
              omega
      · have hkl : k = xs.length := by omega
        subst hkl
        have HN := Lib.hid (same_yes (take_all hall.out HL.out))
        go_wp2
        exact ⟨rfl, _, results_tmp (t := 4) rfl _ _ _, by rw [HN.out]; rfl, hb.out⟩
  · have hne : ((xs.length : Int) != (ys.length : Int)) = true := by simp; omega
    have HN := Lib.hid (same_no (fun e => hl (by rw [e])) : same xs ys = false)
    clear hl
    go_enter Tryz.func14, Tryz.ntmps14
    go_wp2
    exact ⟨rfl, _, results_tmp (t := 4) rfl _ _ _, by rw [HN.out]; rfl, al2 _ _ _⟩
/-- truffleref09.Same. -/
theorem ref_same (L B : Nat) (hL : L ≤ maxLen) : ∀ (n : Nat) (w : World) (cs ds : List Value) (x y : Msg), RMsg L B w n cs x → RMsg L B w n ds y →
    Calls Tryz.prog 14 #[.agg cs.toArray, .agg ds.toArray] w fun e w' => e = .returned (.bool (same x y)) ∧ Below w.heap.size w w'
  | 0, _, _, _, _, _, h, _ => h.elim
  | n + 1, w, cs, ds, x, y, h, k => ref_same_step L B n hL (fun w cs ds x y h k => ref_same L B hL n w cs ds x y h k) w cs ds x y h k
end Go.Proofs.YthikfifoomfjgaaGreat
