/- Contract of truffleref09.Size. -/
import Derived.Test.YtogcnodgpgiacaaRefDeep
namespace Go.Tr
theorem size_at (m : Msg) (k : Nat) (hk : k < m.f.length) : (valsTo m k).length + (Slot.both m.f[k]).length + (sizes (subsOf (valsTo m k)) + sizes (subsOf (Slot.both m.f[k]))) ≤ m.size := by
  have h1 := size_sizes m
  have h2 : m.vals = valsTo m (k + 1) ++ (m.f.drop (k + 1)).flatMap Slot.both := by
    have h : m.f = m.f.take (k + 1) ++ m.f.drop (k + 1) := (List.take_append_drop _ _).symm
    conv => lhs; unfold Msg.vals; rw [h, List.flatMap_append]
    rfl
  rw [← subsOf_vals, h2, subsOf_app, sizes_app, List.length_append, valsTo_next m k hk, subsOf_app, sizes_app, List.length_append] at h1
  omega
end Go.Tr
namespace Go.Proofs.Ytogcnodgpgiacaa
open Go.RowKit Go.Tr
set_option linter.unusedVariables false
set_option linter.unusedSimpArgs false
section
attribute [local go_sem] run_store
set_option maxHeartbeats 2000000 in
theorem ref_size_step (L n : Nat) (hL : L ≤ 1048576) (hm : ∀ w cs m, RMsg L 0 w n cs m → m.size ≤ 1000000 → Calls Try.prog 25 #[.agg cs.toArray] w fun e w' => e = .returned (.int .i64 m.size) ∧ Below w.heap.size w w')
    (w : World) (cs : List Value) (m : Msg) (hx : RMsg L 0 w (n + 1) cs m) (hd : m.size ≤ 1000000) :
    Calls Try.prog 25 #[.agg cs.toArray] w fun e w' => e = .returned (.int .i64 m.size) ∧ Below w.heap.size w w' := by
  have HM := Lib.hid hm
  clear hm
  obtain ⟨c, rfl, h4⟩ := hx
  have H4 := Lib.hid h4
  have hlen := h4.len
  obtain ⟨a1, cap1, rfl, q0, q1, q2, -, -⟩ := h4
  unfold maxLen at q2
  have HD := Lib.hid hd
  clear hd
  go_enter Try.func25, Try.ntmps25
  go_wp2
  go_loopw [3, 4] (fun o i wr => ∃ k : Nat, k ≤ m.f.length ∧ i = .int .i64 k ∧ o = .int .i64 (sizesOn (valsTo m k).length (subsOf (valsTo m k))) ∧ Hid (Below (w.heap.size + 1) (w.alloc (.cells #[.slice a1 m.f.length cap1] 24)) wr)) (fun o i _ => m.f.length - (intOf i).toNat)
  case atStart => exact ⟨0, by omega, rfl, rfl, Below.refl _ _⟩
  case round =>
    obtain ⟨k, hk, rfl, rfl, HB⟩ := hrel
    obtain ⟨wo, rfl⟩ : ∃ wo, wo = wr := ⟨_, rfl⟩
    have hbox := (HB.out.cell (p := ⟨w.heap.size, 0, none⟩) (by simp)).trans (show _ = some (Value.slice a1 m.f.length cap1) by simp [go_sem])
    have hz := HB.out.size
    rw [show (w.alloc (.cells #[.slice a1 m.f.length cap1] 24)).heap.size = w.heap.size + 1 by simp] at hz
    by_cases hlt : k < m.f.length
    · have HW := Lib.hid (show Below w.heap.size w wo from (al1 _ _).trans (HB.out.mono (by omega)))
      obtain ⟨bx, ox, c0, c1, c2, e1, -, m0, m1, m2, n0, n1, n2, rx⟩ := (H4.out.imp (R' := RSlot L 0 wo (RMsg L 0 wo n)) HW.out fun _ _ _ h => h.below HW.out).get3 (rslot_three L 0 n) k hlt
      cases e1
      have bl := block_lt_of_cell m0
      have HC := Lib.hid (ref_both L n (by omega) wo [c0, c1, c2] m.f[k] rx (by have := rx.rows.1; omega) (by have := rx.rows.2.1; omega))
      clear rx
      obtain ⟨bs, hbs⟩ : ∃ bs, bs = m.f[k].k ++ m.f[k].v := ⟨_, rfl⟩
      have hin : ∀ y ∈ bs, y ∈ m.vals := fun y hy => both_mem hlt (by rw [hbs] at hy; exact hy)
      have hnext : sizesOn (valsTo m (k + 1)).length (subsOf (valsTo m (k + 1))) = sizesOn ((valsTo m k).length + bs.length) (subsOf (valsTo m k) ++ subsTo bs bs.length) := by
        rw [valsTo_next m k hlt, subsOf_app, subsTo_all, hbs, List.length_append]; rfl
      have hto : ∀ i (hi : i < bs.length) (q : Nat), sizesOn ((valsTo m k).length + bs.length) (subsOf (valsTo m k) ++ subsTo bs i ++ bs[i].m.take q) ≤ 1000000 := by
        intro i hi q
        have h1 := sizes_to bs i hi q
        have h2 := size_at m k hlt
        have h3 := HD.out
        have hbe : bs = Slot.both m.f[k] := hbs
        rw [← hbe] at h2
        rw [subsTo_all] at h1
        unfold sizesOn
        rw [List.append_assoc, sizes_app]
        omega
      have HTO := Lib.hid hto
      have HIN := Lib.hid hin
      have HNX := Lib.hid hnext
      have HBS : Hid (bs = Slot.both m.f[k]) := hbs
      rw [← hbs] at HC
      clear hbs hin hnext hto
      have hb0 := size_at m k hlt
      have hb1 := HD.out
      rw [← HBS.out] at hb0
      obtain ⟨t0, ht0⟩ : ∃ t, t = sizesOn (valsTo m k).length (subsOf (valsTo m k)) := ⟨_, rfl⟩
      have ht1 : t0 + bs.length ≤ 1000000 := by rw [ht0]; unfold sizesOn; omega
      have HT0 := Lib.hid ht0
      rw [← ht0]
      clear ht0 hb0 hb1
      go_wp2_with (go_at_call 44; (with_reducible refine HC.out.mono ?_); rintro e w1 ⟨v1, rfl, r1, b1⟩; (have R1 := Lib.hid r1); (have B1 := Lib.hid b1); (obtain ⟨a2, cap2, rfl, x0, x1, x2, -, -⟩ := r1); clear b1)
      have hlb : bs.length ≤ L + L := R1.out.len
      unfold maxLen at x2
      go_loopw [3, 6] (fun o j wr => ∃ i : Nat, i ≤ bs.length ∧ j = .int .i64 i ∧ o = .int .i64 (sizesOn ((valsTo m k).length + bs.length) (subsOf (valsTo m k) ++ subsTo bs i)) ∧ Hid (Below w1.heap.size w1 wr)) (fun o j _ => bs.length - (intOf j).toNat)
      case atStart => exact ⟨0, by omega, rfl, by rw [HT0.out]; unfold sizesOn; simp [subsTo]; omega, Below.refl _ _⟩
      case round =>
        obtain ⟨i, hi, rfl, rfl, HC2⟩ := hrel
        obtain ⟨wm, rfl⟩ : ∃ wm, wm = wr := ⟨_, rfl⟩
        by_cases hlt2 : i < bs.length
        · obtain ⟨by', oy, d0, d1, d2, e2, -, p0, p1, p2, z0, z1, z2, ry⟩ := (R1.out.imp (R' := RVal L 0 wm (RMsg L 0 wm n)) HC2.out fun _ _ _ h => h.below HC2.out).get3 (rval_three L 0 n) i hlt2
          cases e2
          have bl2 := block_lt_of_cell p0
          obtain ⟨c, e, -, -, -, r4⟩ := ry
          cases e
          have R4 := Lib.hid r4
          obtain ⟨a4, cap4, rfl, y0, y1, y2, -, -⟩ := r4
          unfold maxLen at y2
          have P2 := Lib.hid p2
          clear p0 p1 p2
          go_wp2
          go_loopw [3, 7] (fun o j wr => ∃ q : Nat, q ≤ bs[i].m.length ∧ j = .int .i64 q ∧ o = .int .i64 (sizesOn ((valsTo m k).length + bs.length) (subsOf (valsTo m k) ++ subsTo bs i ++ bs[i].m.take q)) ∧ Hid (Below wm.heap.size wm wr)) (fun o j _ => bs[i].m.length - (intOf j).toNat)
          case atStart => exact ⟨0, by omega, rfl, by simp, Below.refl _ _⟩
          case round =>
            obtain ⟨q, hq, rfl, rfl, HC3⟩ := hrel
            have hp2 := (HC3.out.cell (block_lt_of_cell P2.out)).trans P2.out
            by_cases hlt3 : q < bs[i].m.length
            · obtain ⟨bz, oz, f0, e3, -, s0, t0, rz⟩ := (R4.out.imp (R' := RMsg L 0 wr n) HC3.out fun _ _ _ h => RMsg.below HC3.out n h).get1 (rmsg_one L 0 n) q hlt3
              cases e3
              have bl3 := block_lt_of_cell s0
              have hdp := size_sub (mem_subs (HIN.out _ (List.getElem_mem hlt2)) (List.getElem_mem hlt3))
              have HI := Lib.hid fun w' (hb : Below wr.heap.size wr w') => HM.out w' _ _ (RMsg.below hb n rz) (by have := HD.out; omega)
              have hadd : sizesOn ((valsTo m k).length + bs.length) (subsOf (valsTo m k) ++ subsTo bs i ++ bs[i].m.take (q + 1)) = sizesOn ((valsTo m k).length + bs.length) (subsOf (valsTo m k) ++ subsTo bs i ++ bs[i].m.take q) + bs[i].m[q].size := by
                unfold sizesOn
                rw [List.take_succ_eq_append_getElem hlt3, ← List.append_assoc, sizes_app _ [_], sizes_one]; omega
              have hto : sizesOn ((valsTo m k).length + bs.length) (subsOf (valsTo m k) ++ subsTo bs i ++ bs[i].m.take (q + 1)) ≤ 1000000 := HTO.out i hlt2 (q + 1)
              have HT := Lib.hid hadd
              obtain ⟨d, hdd⟩ : ∃ d, d = bs[i].m[q].size := ⟨_, rfl⟩
              obtain ⟨t, htt⟩ : ∃ t, t = sizesOn ((valsTo m k).length + bs.length) (subsOf (valsTo m k) ++ subsTo bs i ++ bs[i].m.take q) := ⟨_, rfl⟩
              rw [← hdd, ← htt] at HT hadd
              rw [hadd] at hto
              rw [← hdd] at HI hdp
              rw [← htt]
              clear hdd htt rz hadd
              go_wp2_with (go_at_call 25; (with_reducible refine (HI.out _ (Below.refl _ _)).mono ?_); rintro e w3 ⟨rfl, b3⟩)
              refine ⟨⟨q + 1, by omega, rfl, by rw [HT.out]; rfl, HC3.out.nx b3⟩, ?_⟩
              simp only [intOf, Int.toNat_natCast]
              omega
            · have hql : q = bs[i].m.length := by omega
              subst hql
              have HE : subsOf (valsTo m k) ++ subsTo bs i ++ List.take bs[i].m.length bs[i].m = subsOf (valsTo m k) ++ subsTo bs (i + 1) := by rw [List.take_length, subsTo_next _ _ hlt2, List.append_assoc]
              rw [HE]
              clear HE
              go_wp2
              refine ⟨⟨i + 1, by omega, rfl, rfl, HC2.out.nx HC3.out⟩, ?_⟩
              simp only [intOf, Int.toNat_natCast]
              omega
        · have hil : i = bs.length := by omega
          subst hil
          rw [← HNX.out]
          go_wp2
          refine ⟨⟨k + 1, by omega, rfl, rfl, HB.out.trans ((B1.out.nx HC2.out).mono (by omega))⟩, ?_⟩
          simp only [intOf, Int.toNat_natCast]
          omega
    · have hkl : k = m.f.length := by omega
      subst hkl
      have hmd : m.size = sizesOn (valsTo m m.f.length).length (subsOf (valsTo m m.f.length)) := by rw [valsTo_end, subsOf_vals, size_sizes m]; rfl
      obtain ⟨q, hq⟩ : ∃ q, q = sizesOn (valsTo m m.f.length).length (subsOf (valsTo m m.f.length)) := ⟨_, rfl⟩
      rw [← hq] at hmd ⊢
      have hqd : q ≤ 1000000 := by have := HD.out; omega
      have HMD := Lib.hid hmd
      clear hmd hq
      go_wp2
      exact ⟨rfl, .int .i64 q, results_tmp (t := 2) rfl _ _ _, by rw [HMD.out], (al1 _ _).trans (HB.out.mono (by omega))⟩
/-- truffleref09.Size. -/
theorem ref_size (L : Nat) (hL : L ≤ 1048576) : ∀ (n : Nat) (w : World) (cs : List Value) (m : Msg), RMsg L 0 w n cs m → m.size ≤ 1000000 →
    Calls Try.prog 25 #[.agg cs.toArray] w fun e w' => e = .returned (.int .i64 m.size) ∧ Below w.heap.size w w'
  | 0, _, _, _, h, _ => h.elim
  | n + 1, w, cs, m, h, hd => ref_size_step L n hL (ref_size L hL n) w cs m h hd
end
end Go.Proofs.Ytogcnodgpgiacaa
