/- Contracts of truffleref09.Deep and truffleref09.Size. -/
import Derived.Test.YthikfifoomfjgaaGreatSize
namespace Go.Tr
def subsOf (l : List Val) : List Msg := l.flatMap fun x => x.m
theorem subsTo_all (l : List Val) : subsTo l l.length = subsOf l := by unfold subsTo subsOf; rw [List.take_length]
theorem subsOf_app (l r : List Val) : subsOf (l ++ r) = subsOf l ++ subsOf r := by simp [subsOf]
theorem subsOf_vals (m : Msg) : subsOf m.vals = m.subs := rfl
theorem both_mem {m : Msg} {k : Nat} (hk : k < m.f.length) {y : Val} (h : y ∈ Slot.both m.f[k]) : y ∈ m.vals := List.mem_flatMap.2 ⟨_, List.getElem_mem hk, h⟩
end Go.Tr
namespace Go.Proofs.YthikfifoomfjgaaGreat
open Go.RowKit Go.Tr
set_option linter.unusedVariables false
set_option linter.unusedSimpArgs false
section
attribute [local go_sem] run_store
set_option maxHeartbeats 2000000 in
theorem ref_deep_step (L n : Nat) (hL : L ≤ 1048576) (hm : ∀ w cs m, RMsg L 0 w n cs m → m.deep ≤ 1000000 → Calls Tryz.prog 38 #[.agg cs.toArray] w fun e w' => e = .returned (.int .i64 m.deep) ∧ Below w.heap.size w w')
    (w : World) (cs : List Value) (m : Msg) (hx : RMsg L 0 w (n + 1) cs m) (hd : m.deep ≤ 1000000) :
    Calls Tryz.prog 38 #[.agg cs.toArray] w fun e w' => e = .returned (.int .i64 m.deep) ∧ Below w.heap.size w w' := by
  have HM := Lib.hid hm
  clear hm
  obtain ⟨c, rfl, h4⟩ := hx
  have H4 := Lib.hid h4
  have hlen := h4.len
  obtain ⟨a1, cap1, rfl, q0, q1, q2, -, -⟩ := h4
  unfold maxLen at q2
  have HD := Lib.hid hd
  clear hd
  go_enter Tryz.func38, Tryz.ntmps38
  go_wp2
  go_loopw [3, 4] (fun o i wr => ∃ k : Nat, k ≤ m.f.length ∧ i = .int .i64 k ∧ o = .int .i64 (most (subsOf (valsTo m k))) ∧ Hid (Below (w.heap.size + 1) (w.alloc (.cells #[.slice a1 m.f.length cap1] 28)) wr)) (fun o i _ => m.f.length - (intOf i).toNat)
  case atStart => exact ⟨0, by omega, rfl, rfl, Below.refl _ _⟩
  case round =>
    obtain ⟨k, hk, rfl, rfl, HB⟩ := hrel
    obtain ⟨wo, rfl⟩ : ∃ wo, wo = wr := ⟨_, rfl⟩
    have hbox := (HB.out.cell (p := ⟨w.heap.size, 0, none⟩) (by simp)).trans (show _ = some (Value.slice a1 m.f.length cap1) by simp [go_sem])
    have hz := HB.out.size
    rw [show (w.alloc (.cells #[.slice a1 m.f.length cap1] 28)).heap.size = w.heap.size + 1 by simp] at hz
    by_cases hlt : k < m.f.length
    · have HW := Lib.hid (show Below w.heap.size w wo from (al1 _ _).trans (HB.out.mono (by omega)))
      obtain ⟨bx, ox, c0, c1, c2, e1, -, m0, m1, m2, n0, n1, n2, rx⟩ := (H4.out.imp (R' := RSlot L 0 wo (RMsg L 0 wo n)) HW.out fun _ _ _ h => h.below HW.out).get3 (rslot_three L 0 n) k hlt
      cases e1
      have bl := block_lt_of_cell m0
      have HC := Lib.hid (ref_both L n (by omega) wo [c0, c1, c2] m.f[k] rx (by have := rx.rows.1; omega) (by have := rx.rows.2.1; omega))
      clear rx
      obtain ⟨bs, hbs⟩ : ∃ bs, bs = m.f[k].k ++ m.f[k].v := ⟨_, rfl⟩
      have hin : ∀ y ∈ bs, y ∈ m.vals := fun y hy => both_mem hlt (by rw [hbs] at hy; exact hy)
      have hnext : subsOf (valsTo m (k + 1)) = subsOf (valsTo m k) ++ subsTo bs bs.length := by rw [valsTo_next m k hlt, subsOf_app, subsTo_all, hbs]; rfl
      have HIN := Lib.hid hin
      have HNX := Lib.hid hnext
      rw [← hbs] at HC
      clear hbs hin hnext
      go_wp2_with (go_at_call 75; (with_reducible refine HC.out.mono ?_); rintro e w1 ⟨v1, rfl, r1, b1⟩; (have R1 := Lib.hid r1); (have B1 := Lib.hid b1); (obtain ⟨a2, cap2, rfl, x0, x1, x2, -, -⟩ := r1); clear b1)
      have hlb : bs.length ≤ L + L := R1.out.len
      unfold maxLen at x2
      go_loopw [3, 6] (fun o j wr => ∃ i : Nat, i ≤ bs.length ∧ j = .int .i64 i ∧ o = .int .i64 (most (subsOf (valsTo m k) ++ subsTo bs i)) ∧ Hid (Below w1.heap.size w1 wr)) (fun o j _ => bs.length - (intOf j).toNat)
      case atStart => exact ⟨0, by omega, rfl, by simp [subsTo], Below.refl _ _⟩
      case round =>
        obtain ⟨i, hi, rfl, rfl, HC2⟩ := hrel
        obtain ⟨wm, rfl⟩ : ∃ wm, wm = wr := ⟨_, rfl⟩
        by_cases hlt2 : i < bs.length
        · obtain ⟨by', oy, d0, d1, d2, e2, -, p0, p1, p2, z0, z1, z2, ry⟩ := (R1.out.imp (R' := RVal L 0 wm (RMsg L 0 wm n)) HC2.out fun _ _ _ h => h.below HC2.out).get3 (rval_three L 0 n) i hlt2
          cases e2
          have bl2 := block_lt_of_cell p0
          obtain ⟨c, e, -, -, -, r4⟩ := ry
          cases e
          have R4 := Lib.hid r4
          obtain ⟨a4, cap4, rfl, y0, y1, y2, -, -⟩ := r4
          unfold maxLen at y2
          have P2 := Lib.hid p2
          clear p0 p1 p2
          go_wp2
          go_loopw [3, 7] (fun o j wr => ∃ q : Nat, q ≤ bs[i].m.length ∧ j = .int .i64 q ∧ o = .int .i64 (most (subsOf (valsTo m k) ++ subsTo bs i ++ bs[i].m.take q)) ∧ Hid (Below wm.heap.size wm wr)) (fun o j _ => bs[i].m.length - (intOf j).toNat)
          case atStart => exact ⟨0, by omega, rfl, by simp, Below.refl _ _⟩
          case round =>
            obtain ⟨q, hq, rfl, rfl, HC3⟩ := hrel
            have hp2 := (HC3.out.cell (block_lt_of_cell P2.out)).trans P2.out
            by_cases hlt3 : q < bs[i].m.length
            · obtain ⟨bz, oz, f0, e3, -, s0, t0, rz⟩ := (R4.out.imp (R' := RMsg L 0 wr n) HC3.out fun _ _ _ h => RMsg.below HC3.out n h).get1 (rmsg_one L 0 n) q hlt3
              cases e3
              have bl3 := block_lt_of_cell s0
              have hdp := deep_sub (mem_subs (HIN.out _ (List.getElem_mem hlt2)) (List.getElem_mem hlt3))
              have HI := Lib.hid fun w' (hb : Below wr.heap.size wr w') => HM.out w' _ _ (RMsg.below hb n rz) (by have := HD.out; omega)
              have HT := Lib.hid (show most (subsOf (valsTo m k) ++ subsTo bs i ++ bs[i].m.take (q + 1)) = max (most (subsOf (valsTo m k) ++ subsTo bs i ++ bs[i].m.take q)) bs[i].m[q].deep by
                rw [List.take_succ_eq_append_getElem hlt3, ← List.append_assoc, most_app _ [_], most_one])
              obtain ⟨d, hdd⟩ : ∃ d, d = bs[i].m[q].deep := ⟨_, rfl⟩
              obtain ⟨t, htt⟩ : ∃ t, t = most (subsOf (valsTo m k) ++ subsTo bs i ++ bs[i].m.take q) := ⟨_, rfl⟩
              rw [← hdd, ← htt] at HT
              rw [← hdd] at HI hdp
              rw [← htt]
              clear hdd htt rz
              by_cases hgt : t < d
              · have hg : decide ((d : Int) > (t : Int)) = true := by simp; omega
                go_wp2_with (go_at_call 38; (with_reducible refine (HI.out _ (Below.refl _ _)).mono ?_); rintro e w3 ⟨rfl, b3⟩)
                refine ⟨⟨q + 1, by omega, rfl, by rw [HT.out]; congr 2; omega, HC3.out.nx b3⟩, ?_⟩
                simp only [intOf, Int.toNat_natCast]
                omega
              · have hg : decide ((d : Int) > (t : Int)) = false := by simp; omega
                go_wp2_with (go_at_call 38; (with_reducible refine (HI.out _ (Below.refl _ _)).mono ?_); rintro e w3 ⟨rfl, b3⟩)
                refine ⟨⟨q + 1, by omega, rfl, by rw [HT.out]; congr 2; omega, HC3.out.nx b3⟩, ?_⟩
                simp only [intOf, Int.toNat_natCast]
                omega
            · have hql : q = bs[i].m.length := by omega
              subst hql
              have HE : subsOf (valsTo m k) ++ subsTo bs i ++ List.take bs[i].m.length bs[i].m = subsOf (valsTo m k) ++ subsTo bs (i + 1) := by rw [List.take_length, subsTo_next _ _ hlt2, List.append_assoc]
              rw [HE]
              clear HE
              go_wp2
              refine ⟨⟨i + 1, by omega, rfl, rfl, HC2.out.nx HC3.out⟩, ?_⟩
              simp only [intOf, Int.toNat_natCast]
              omega
        · have hil : i = bs.length := by omega
          subst hil
          rw [← HNX.out]
          go_wp2
          refine ⟨⟨k + 1, by omega, rfl, rfl, HB.out.trans ((B1.out.nx HC2.out).mono (by omega))⟩, ?_⟩
          simp only [intOf, Int.toNat_natCast]
          omega
    · have hkl : k = m.f.length := by omega
      subst hkl
      have hmd : m.deep = most (subsOf (valsTo m m.f.length)) + 1 := by rw [valsTo_end, subsOf_vals, Msg.deep_eq m]; rfl
      obtain ⟨q, hq⟩ : ∃ q, q = most (subsOf (valsTo m m.f.length)) := ⟨_, rfl⟩
      rw [← hq] at hmd ⊢
      have hqd : q + 1 ≤ 1000000 := by have := HD.out; omega
      have HMD := Lib.hid hmd
      clear hmd hq
      go_wp2
      exact ⟨rfl, .int .i64 (q + 1), results_tmp (t := 2) rfl _ _ _, by rw [HMD.out]; rfl, (al1 _ _).trans (HB.out.mono (by omega))⟩
/-- truffleref09.Deep. -/
theorem ref_deep (L : Nat) (hL : L ≤ 1048576) : ∀ (n : Nat) (w : World) (cs : List Value) (m : Msg), RMsg L 0 w n cs m → m.deep ≤ 1000000 →
    Calls Tryz.prog 38 #[.agg cs.toArray] w fun e w' => e = .returned (.int .i64 m.deep) ∧ Below w.heap.size w w'
  | 0, _, _, _, h, _ => h.elim
  | n + 1, w, cs, m, h, hd => ref_deep_step L n hL (ref_deep L hL n) w cs m h hd
end
end Go.Proofs.YthikfifoomfjgaaGreat
