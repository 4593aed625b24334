/- Contracts of the reference's Own, Slot and Each of chapter 9: a tree of one's own. -/
import Derived.Test.YtogcnodgpgiacaaGrow9
import Derived.Deep.AppendLies
import Derived.Deep.RegionLaw
namespace Go.Proofs.Ytogcnodgpgiacaa
open Go.RowKit Go.Tr
set_option linter.unusedVariables false
set_option linter.unusedSimpArgs false
section
attribute [local go_sem] run_store
set_option maxHeartbeats 4000000 in
theorem own_step9 (L n : Nat) (hL : L ≤ 1048576)
    (ih : ∀ w cs s, RSlot L 0 w (RMsg L 0 w n) cs s → Calls Try.prog 40 #[.agg cs.toArray] w fun e w' => ∃ ds, e = .returned (.agg ds.toArray) ∧ RSlot L w.heap.size w' (RMsg L w.heap.size w' n) ds s ∧ Below w.heap.size w w')
    (w : World) (cs : List Value) (m : Msg) (hx : RMsg L 0 w (n + 1) cs m) :
    Calls Try.prog 16 #[.agg cs.toArray] w fun e w' => ∃ ds, e = .returned (.agg ds.toArray) ∧ RMsg L w.heap.size w' (n + 1) ds m ∧ Below w.heap.size w w' := by
  obtain ⟨c, rfl, h4⟩ := hx
  have H4 := Lib.hid h4
  have hlen := h4.len
  obtain ⟨a1, cap1, rfl, q0, q1, q2, -, -⟩ := h4
  unfold maxLen at q2
  have HI := Lib.hid ih
  clear ih
  obtain ⟨i3, hi3, hz3, hs3, hb3⟩ := info_parts (P := Try.prog) (e := 27) (z := .agg #[.int .i64 0, .slice none 0 0, .slice none 0 0]) (size := 3) (bytes := 56) (by kernel_rfl)
  have z3 : (Value.agg #[.int .i64 0, .slice none 0 0, .slice none 0 0]).cells.size = 3 := rfl
  go_enter Try.func16, Try.ntmps16
  go_wp2_with fail
  have hb0 : Below w.heap.size w (((w.alloc (.cells #[.slice a1 m.f.length cap1] 24)).alloc (.cells #[.slice none 0 0] 24)).alloc (.cells #[.slice none 0 0] 24)) := ((al1 _ _).nx (al1 _ _)).nx (al1 _ _)
  have g0 : (((w.alloc (.cells #[.slice a1 m.f.length cap1] 24)).alloc (.cells #[.slice none 0 0] 24)).alloc (.cells #[.slice none 0 0] 24)).heap[w.heap.size]? = some (.cells #[.slice a1 m.f.length cap1] 24 (0, 0)) := by
    have h1 := heap_alloc_new w (.cells #[.slice a1 m.f.length cap1] 24)
    have h2 := ((al1 (w.alloc (.cells #[.slice a1 m.f.length cap1] 24)) (.cells #[.slice none 0 0] 24)).block w.heap.size (by simp)).trans h1
    exact ((al1 ((w.alloc (.cells #[.slice a1 m.f.length cap1] 24)).alloc (.cells #[.slice none 0 0] 24)) (.cells #[.slice none 0 0] 24)).block w.heap.size (by simp; omega)).trans h2
  have g1 : (((w.alloc (.cells #[.slice a1 m.f.length cap1] 24)).alloc (.cells #[.slice none 0 0] 24)).alloc (.cells #[.slice none 0 0] 24)).heap[w.heap.size + 1]? = some (.cells #[.slice none 0 0] 24 (0, 0)) := by
    have h1 := heap_alloc_new (w.alloc (.cells #[.slice a1 m.f.length cap1] 24)) (.cells #[.slice none 0 0] 24)
    rw [show (w.alloc (.cells #[.slice a1 m.f.length cap1] 24)).heap.size = w.heap.size + 1 by simp] at h1
    exact ((al1 ((w.alloc (.cells #[.slice a1 m.f.length cap1] 24)).alloc (.cells #[.slice none 0 0] 24)) (.cells #[.slice none 0 0] 24)).block (w.heap.size + 1) (by simp)).trans h1
  have g2 : (((w.alloc (.cells #[.slice a1 m.f.length cap1] 24)).alloc (.cells #[.slice none 0 0] 24)).alloc (.cells #[.slice none 0 0] 24)).heap[w.heap.size + 1 + 1]? = some (.cells #[.slice none 0 0] 24 (0, 0)) := by
    have h1 := heap_alloc_new ((w.alloc (.cells #[.slice a1 m.f.length cap1] 24)).alloc (.cells #[.slice none 0 0] 24)) (.cells #[.slice none 0 0] 24)
    rw [show ((w.alloc (.cells #[.slice a1 m.f.length cap1] 24)).alloc (.cells #[.slice none 0 0] 24)).heap.size = w.heap.size + 1 + 1 by simp] at h1
    exact h1
  have HB0 := Lib.hid hb0
  have G0 := Lib.hid g0
  have G1 := Lib.hid g1
  have G2 := Lib.hid g2
  clear hb0 g0 g1 g2
  go_loopw [4] (fun v4 wr => ∃ (i : Nat) (vm : Value), i ≤ m.f.length ∧ v4 = .int .i64 i ∧ Hid (Grown 27 3 (w.heap.size + 3) wr (fun b w cs s => RSlot L b w (RMsg L b w n) cs s) vm (m.f.take i)) ∧ Hid (wr.heap[w.heap.size]? = some (.cells #[.slice a1 m.f.length cap1] 24 (0, 0))) ∧ Hid (wr.heap[w.heap.size + 1]? = some (.cells #[.slice none 0 0] 24 (0, 0))) ∧ Hid (wr.heap[w.heap.size + 1 + 1]? = some (.cells #[vm] 24 (0, 0))) ∧ Hid (Below w.heap.size w wr)) (fun v4 _ => m.f.length - (intOf v4).toNat)
  case atStart => exact ⟨0, .slice none 0 0, Nat.zero_le _, rfl, Lib.hid (Grown.nil _ _ _ _ _), G0, G1, G2, HB0⟩
  case round =>
    rename World => wA
    clear G0 G1 G2 HB0
    obtain ⟨i, vm, hi, rfl, HG, G0, G1, G2, HB⟩ := hrel
    have m0 : wA.cell? ⟨w.heap.size, 0, none⟩ = some (.slice a1 m.f.length cap1) := cell_of_row wA w.heap.size 0 _ _ (0, 0) G0.out
    have m2 : wA.cell? ⟨w.heap.size + 1 + 1, 0, none⟩ = some vm := cell_of_row wA (w.heap.size + 1 + 1) 0 #[vm] _ (0, 0) G2.out
    have lt0 := lt_blk G0.out
    have lt2 := lt_blk G2.out
    by_cases hlt : i < m.f.length
    · obtain ⟨bx, ox, c0, c1, c2, e1, -, p0', p1', p2', n0, n1, n2, rx⟩ := H4.out.get3 (rslot_three L 0 n) i hlt
      cases e1
      have p0 := (HB.out.cell (block_lt_of_cell p0')).trans p0'
      have p1 := (HB.out.cell (block_lt_of_cell p1')).trans p1'
      have p2 := (HB.out.cell (block_lt_of_cell p2')).trans p2'
      have bl := block_lt_of_cell p0
      clear p0' p1' p2'
      have HT := Lib.hid (List.take_succ_eq_append_getElem hlt)
      have HC := Lib.hid (HI.out wA.drew [c0, c1, c2] m.f[i] ((rx.below HB.out).below (Below.refl _ _).drew))
      have hln : (m.f.take i).length = i := by rw [List.length_take]; omega
      clear rx
      generalize m.f[i] = x at *
      go_upto_region 5 with fail
      have hf2 : wA.frozen? ⟨w.heap.size + 1 + 1, 0, none⟩ = false := by simp [World.frozen?, G2.out]
      go_region_law (first
        | (obtain ⟨ys, hown, hpart⟩ := HG.out.below (BY.out.nx (al1 y1 (.cells #[d0, d1, d2] 27))); (refine step_append_lies _ rfl (.tmp 14) (.tmp 21) 22 rfl (w.heap.size + 3) 27 i3 _ 3 56 Try.underlying22 hi3 hz3 hs3 hb3 z3 (by omega) vm (m.f.take i).length ys (by simp [Act.eval, Act.put]) hown ⟨y1.heap.size, 0, none⟩ 1 1 [d0, d1, d2] (by simp [Act.eval, Act.put]) rfl (block_src (heap_alloc_new y1 (.cells #[d0, d1, d2] 27))) (by simp [o0, o1, o2]) (by omega) (by unfold maxLen; omega) (by omega) (by simp; omega) _ rfl ?_); (rintro g cap w9 ho9 hg9 hl9 hlt9);
            (have K9 := grown_step (R := fun b w cs s => RSlot L b w (RMsg L b w n) cs s) HG.out (BY.out) (by have := HB.out.size; omega) RS.out rfl hown hpart ho9 hg9 hl9); (obtain ⟨gn, hne', b9⟩ := K9); (have GN := Lib.hid gn); (have hne := fun (b : Nat) (c : Array Value) => hne' b c 24 (by decide)); (have B9 := Lib.hid (b9 w (by omega) HB.out)); clear gn hne' b9;
            (have X0 := Lib.hid (hne _ _ G0.out)); (have X1 := Lib.hid (hne _ _ G1.out)); (have X2 := Lib.hid (hne _ _ G2.out));
            (have x2 : w9.cell? ⟨w.heap.size + 1 + 1, 0, none⟩ = some vm := cell_of_row w9 (w.heap.size + 1 + 1) 0 #[vm] _ (0, 0) X2.out);
            (have xf2 : w9.frozen? ⟨w.heap.size + 1 + 1, 0, none⟩ = false := (by simp [World.frozen?, X2.out]));
            (have xl := lt_blk X2.out);
            clear hne ho9 hg9 hl9 hown hpart)
        | (go_simp; go_at_call 40; (with_reducible refine HC.out.mono ?_); (rintro e y1 ⟨ds, rfl, rs, b1⟩); (obtain ⟨d0, d1, d2, rfl, o0, o1, o2⟩ := rslot_three L wA.drew.heap.size n _ _ _ rs); (have BY := Lib.hid ((Below.refl wA.heap.size wA).drew.nx b1)); (have RS := Lib.hid rs); (have k2 := (BY.out.cell lt2).trans m2); (have kl := Nat.lt_of_lt_of_le lt2 BY.out.size); clear b1 rs)
        | fail)
      all_goals (go_wp2_with fail; go_roundw)
      all_goals first
      | (simp [intOf]; omega)
      | (have hs9 : ∀ u, (w9.setCell ⟨w.heap.size + 1 + 1, 0, none⟩ u).heap[w.heap.size + 1 + 1]? = some (.cells #[u] 24 (0, 0)) := fun u => by
          have h := heap_setCell_same w9 (w.heap.size + 1 + 1) 0 _ _ u X2.out
          simpa using h
         exact ⟨i + 1, .slice (some ⟨g, 0, none⟩) (i + 1) cap, by omega, by simp, Lib.hid (by rw [HT.out]; have q := GN.out; rw [hln] at q; exact q.set (by simp) _), Lib.hid ((heap_setCell_other w9 _ _ _ (by simp; omega)).trans X0.out), Lib.hid ((heap_setCell_other w9 _ _ _ (by simp)).trans X1.out), Lib.hid (hs9 _), Lib.hid (B9.out.setCell (by simp; omega) _)⟩)
    · obtain rfl : i = m.f.length := by omega
      have HG2 := Lib.hid (show Grown 27 3 (w.heap.size + 3) wA (fun b w cs s => RSlot L b w (RMsg L b w n) cs s) vm m.f by have := HG.out; rwa [List.take_length] at this)
      obtain ⟨av, nv, cv, rfl⟩ : ∃ a n c, vm = .slice a n c := by
        obtain ⟨ys, h1, -⟩ := HG2.out
        rcases h1.2 with ⟨h, -⟩ | ⟨g, cap, cur, h, -⟩
        · exact ⟨_, _, _, h⟩
        · exact ⟨_, _, _, h⟩
      have m1 : wA.cell? ⟨w.heap.size + 1, 0, none⟩ = some (.slice none 0 0) := cell_of_row wA (w.heap.size + 1) 0 _ _ (0, 0) G1.out
      have f1 : wA.frozen? ⟨w.heap.size + 1, 0, none⟩ = false := by simp [World.frozen?, G1.out]
      have lt1 := lt_blk G1.out
      go_wp2_with fail
      have kp : Keeps (w.heap.size + 3) wA (wA.setCell ⟨w.heap.size + 1, 0, none⟩ (.slice av nv cv)) := (Keeps.refl _ _).set (by simp) _
      have HR := (HG2.out.set (p := ⟨w.heap.size + 1, 0, none⟩) (by simp) (.slice av nv cv)).row (L := L) (rslot_keepB L n) hlen
      exact bodyPost_ret (v := .agg #[.slice av nv cv]) (results_cell_mid rfl _ _ (w.heap.size + 1) 0 [_] _ rfl (World.rangeAt_setCells_same wA (w.heap.size + 1) 0 [_] fun j hj => ⟨by match j, hj with
        | 0, _ => rw [m1]; rfl, by match j, hj with
        | 0, _ => exact f1⟩) Try.underlying24 rfl (by kernel_rfl)) rfl ⟨[_], rfl, ⟨_, rfl, HR.gen hlen (by omega) (Keeps.refl _ _) fun _ _ _ h => rslot_keepB L n _ _ _ _ _ _ (by omega) (Keeps.refl _ _) h⟩, HB.out.setCell (by simp) _⟩
end
end Go.Proofs.Ytogcnodgpgiacaa
