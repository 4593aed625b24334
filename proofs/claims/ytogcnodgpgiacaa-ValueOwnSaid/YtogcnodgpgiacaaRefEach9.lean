/- Contract of the reference's Each of chapter 9: values of one's own. -/
import Derived.Test.YtogcnodgpgiacaaRefOwn9
namespace Go.Proofs.Ytogcnodgpgiacaa
open Go.RowKit Go.Tr
set_option linter.unusedVariables false
set_option linter.unusedSimpArgs false
theorem blk3 (w : World) (c0 c1 c2 d0 d1 d2 : Value) (t : TypeId) : ((((w.alloc (.cells #[c0, c1, c2] t)).setCell ⟨w.heap.size, 0, none⟩ d0).setCell ⟨w.heap.size, 1, none⟩ d1).setCell ⟨w.heap.size, 2, none⟩ d2).heap[w.heap.size]? = some (.cells #[d0, d1, d2] t (0, 0)) := by
  have h0 := heap_alloc_new w (.cells #[c0, c1, c2] t)
  have h1 := heap_setCell_same _ w.heap.size 0 _ _ d0 h0
  have h2 := heap_setCell_same _ w.heap.size 1 _ _ d1 h1
  have h3 := heap_setCell_same _ w.heap.size 2 _ _ d2 h2
  simpa using h3
theorem rmsg_keepB (L n : Nat) : ∀ B B' w w' cs (x : Msg), B' ≤ B → Keeps B w w' → RMsg L B w n cs x → RMsg L B' w' n cs x := fun _ _ _ _ _ _ hB hw h => RMsg.keep hB hw n n (Nat.le_refl _) h
section
attribute [local go_sem] run_store
set_option maxHeartbeats 4000000 in
theorem each_step9 (L n : Nat) (hL : L ≤ 1048576)
    (ih : ∀ w cs s, RMsg L 0 w n cs s → Calls Try.prog 16 #[.agg cs.toArray] w fun e w' => ∃ ds, e = .returned (.agg ds.toArray) ∧ RMsg L w.heap.size w' n ds s ∧ Below w.heap.size w w')
    (w : World) (v : Value) (l : List Val) (hx : RowOf L 0 w 3 (RVal L 0 w (RMsg L 0 w n)) v l) :
    Calls Try.prog 53 #[v] w fun e w' => ∃ v', e = .returned v' ∧ RowOf L w.heap.size w' 3 (RVal L w.heap.size w' (RMsg L w.heap.size w' n)) v' l ∧ Below w.heap.size w w' := by
  have H4 := Lib.hid hx
  have hlen := hx.len
  obtain ⟨a1, cap1, rfl, q0, q1, q2, -, -⟩ := hx
  unfold maxLen at q2
  have HI := Lib.hid ih
  clear ih
  obtain ⟨i3, hi3, hz3, hs3, hb3⟩ := info_parts (P := Try.prog) (e := 38) (z := .agg #[.int .i64 0, .string "".toUTF8, .slice none 0 0]) (size := 3) (bytes := 48) (by kernel_rfl)
  have z3 : (Value.agg #[.int .i64 0, .string "".toUTF8, .slice none 0 0]).cells.size = 3 := rfl
  obtain ⟨i1, hi1, hz1, hs1, hb1⟩ := info_parts (P := Try.prog) (e := 24) (z := .agg #[.slice none 0 0]) (size := 1) (bytes := 24) (by kernel_rfl)
  have z1 : (Value.agg #[.slice none 0 0]).cells.size = 1 := rfl
  go_enter Try.func53, Try.ntmps53
  go_wp2_with fail
  go_loopw [3, 4] (fun o i wr => ∃ k : Nat, k ≤ l.length ∧ i = .int .i64 k ∧ Hid (Grown 38 3 w.heap.size wr (fun b w cs s => RVal L b w (RMsg L b w n) cs s) o (l.take k)) ∧ Hid (Below w.heap.size w wr)) (fun _ i _ => l.length - (intOf i).toNat)
  case atStart => exact ⟨0, Nat.zero_le _, rfl, Lib.hid (Grown.nil _ _ _ _ _), Lib.hid (Below.refl _ _)⟩
  case round =>
    rename World => wA
    obtain ⟨i, hi, rfl, HG, HB⟩ := hrel
    by_cases hlt : i < l.length
    · obtain ⟨bx, ox, c0, c1, c2, e1, -, p0', p1', p2', n0, n1, n2, rx⟩ := H4.out.get3 (rval_three L 0 n) i hlt
      cases e1
      have p0 := (HB.out.cell (block_lt_of_cell p0')).trans p0'
      have p1 := (HB.out.cell (block_lt_of_cell p1')).trans p1'
      have p2 := (HB.out.cell (block_lt_of_cell p2')).trans p2'
      have bl := block_lt_of_cell p0
      clear p0' p1' p2'
      have HT := Lib.hid (List.take_succ_eq_append_getElem hlt)
      have hln : (l.take i).length = i := by rw [List.length_take]; omega
      obtain ⟨c, e1, y1, y2, y3, r4⟩ := (rx.below HB.out)
      cases e1
      clear rx
      generalize l[i] = x at *
      have HR := Lib.hid r4
      obtain ⟨a4, cap4, rfl, t0, t1, t2, -, -⟩ := r4
      unfold maxLen at t2
      go_upto_region 5 with fail
      go_region
      go_wp2_with fail
      have hx0 : (wA.alloc (.cells #[.int .i64 x.n, .string x.s, .slice none 0 0] 38)).drew.heap[wA.heap.size]? = some (.cells #[.int .i64 x.n, .string x.s, .slice none 0 0] 38 (0, 0)) := heap_alloc_new wA _
      have hb0 : Below wA.heap.size wA (wA.alloc (.cells #[.int .i64 x.n, .string x.s, .slice none 0 0] 38)).drew := (al1 _ _).drew
      have HX0 := Lib.hid hx0
      have HB0 := Lib.hid hb0
      clear hx0 hb0
      generalize (wA.alloc (.cells #[.int .i64 x.n, .string x.s, .slice none 0 0] 38)).drew = w0 at HX0 HB0 ⊢
      go_loopw [6] (fun j wr => ∃ (q : Nat) (vm : Value), q ≤ x.m.length ∧ j = .int .i64 q ∧ Hid (Grown 24 1 (wA.heap.size + 1) wr (fun b w cs s => RMsg L b w n cs s) vm (x.m.take q)) ∧ Hid (wr.heap[wA.heap.size]? = some (.cells #[.int .i64 x.n, .string x.s, vm] 38 (0, 0))) ∧ Hid (Below wA.heap.size wA wr)) (fun j _ => x.m.length - (intOf j).toNat)
      case atStart => exact ⟨0, .slice none 0 0, Nat.zero_le _, rfl, Lib.hid (Grown.nil _ _ _ _ _), HX0, HB0⟩
      case round =>
        rename World => wB
        clear HX0 HB0
        obtain ⟨q, vm, hq, rfl, HGM, HX, HBB⟩ := hrel
        have p2b := (HBB.out.cell (block_lt_of_cell p2)).trans p2
        have blb := block_lt_of_cell p2b
        have ltk := lt_blk HX.out
        have m2 : wB.cell? ⟨wA.heap.size, 2, none⟩ = some vm := cell_of_row wB wA.heap.size 2 _ _ (0, 0) HX.out
        have f2 : wB.frozen? ⟨wA.heap.size, 2, none⟩ = false := by simp [World.frozen?, HX.out]
        by_cases hlq : q < x.m.length
        · obtain ⟨b3, o3, f0, e3, -, s0', u0, rz⟩ := (HR.out.imp (R' := RMsg L 0 wB n) HBB.out fun _ _ _ h => RMsg.below HBB.out n h).get1 (rmsg_one L 0 n) q hlq
          cases e3
          have s0 := s0'
          have bl3 := block_lt_of_cell s0
          have HTM := Lib.hid (List.take_succ_eq_append_getElem hlq)
          have hlnm : (x.m.take q).length = q := by rw [List.length_take]; omega
          have HC := Lib.hid (HI.out wB.drew [f0] x.m[q] (RMsg.below (Below.refl _ _).drew n rz))
          clear rz s0'
          generalize x.m[q] = z at *
          go_upto_region 9 with fail
          go_region_law (first
            | (obtain ⟨ys, hown, hpart⟩ := HGM.out.below (BY.out.nx (al1 y1 (.cells #[d0] 24))); (refine step_append_lies _ rfl (.tmp 35) (.tmp 45) 36 rfl (wA.heap.size + 1) 24 i1 _ 1 24 Try.underlying36 hi1 hz1 hs1 hb1 z1 (by omega) vm (x.m.take q).length ys (by simp [Act.eval, Act.put]) hown ⟨y1.heap.size, 0, none⟩ 1 1 [d0] (by simp [Act.eval, Act.put]) rfl (block_src (heap_alloc_new y1 (.cells #[d0] 24))) (by simp [o0]) (by omega) (by unfold maxLen; omega) (by omega) (by simp; omega) _ rfl ?_); (rintro g cap w9 ho9 hg9 hl9 hlt9);
                (have K9 := grown_step (R := fun b w cs s => RMsg L b w n cs s) HGM.out (BY.out) (by omega) RS.out rfl hown hpart ho9 hg9 hl9); (obtain ⟨gn, hne', b9⟩ := K9); (have GN := Lib.hid gn); (have X2 := Lib.hid (hne' _ _ 38 (by decide) HX.out)); (have B9 := Lib.hid (b9 wA (by omega) HBB.out)); clear gn hne' b9;
                (have x2 : w9.cell? ⟨wA.heap.size, 2, none⟩ = some vm := cell_of_row w9 wA.heap.size 2 _ _ (0, 0) X2.out);
                (have xf2 : w9.frozen? ⟨wA.heap.size, 2, none⟩ = false := (by simp [World.frozen?, X2.out]));
                (have xl := lt_blk X2.out);
                clear ho9 hg9 hl9 hown hpart)
            | (go_simp; go_at_call 16; (with_reducible refine HC.out.mono ?_); (rintro e y1 ⟨ds, rfl, rs, b1⟩); (obtain ⟨d0, rfl, o0⟩ := rmsg_one L wB.drew.heap.size n _ _ _ rs); (have BY := Lib.hid ((Below.refl wB.heap.size wB).drew.nx b1)); (have RS := Lib.hid rs); (have k2 := (BY.out.cell ltk).trans m2); (have kl := Nat.lt_of_lt_of_le ltk BY.out.size); clear b1 rs)
            | fail)
          all_goals (go_wp2_with fail; go_roundw)
          all_goals first
          | (simp [intOf]; omega)
          | (have hs9 : ∀ u, (w9.setCell ⟨wA.heap.size, 2, none⟩ u).heap[wA.heap.size]? = some (.cells #[.int .i64 x.n, .string x.s, u] 38 (0, 0)) := fun u => by
               have h := heap_setCell_same w9 wA.heap.size 2 _ _ u X2.out
               simpa using h
             exact ⟨q + 1, .slice (some ⟨g, 0, none⟩) (q + 1) cap, by omega, by simp, Lib.hid (by rw [HTM.out]; have q := GN.out; rw [hlnm] at q; exact q.set (by simp) _), Lib.hid (hs9 _), Lib.hid (B9.out.setCell (by simp) _)⟩)
        · obtain rfl : q = x.m.length := by omega
          have HGM2 := Lib.hid (show Grown 24 1 (wA.heap.size + 1) wB (fun b w cs s => RMsg L b w n cs s) vm x.m by have := HGM.out; rwa [List.take_length] at this)
          have hrow := HGM2.out.row (L := L) (rmsg_keepB L n) t0
          have RV := Lib.hid (show RVal L wA.heap.size wB (RMsg L wA.heap.size wB n) [.int .i64 x.n, .string x.s, vm] x from ⟨vm, rfl, y1, y2, y3, hrow.gen t0 (by omega) (Keeps.refl _ _) fun _ _ _ h => RMsg.keep (by omega) (Keeps.refl _ _) n n (Nat.le_refl _) h⟩)
          obtain ⟨av, cv, rfl, -⟩ := hrow
          have m0 : wB.cell? ⟨wA.heap.size, 0, none⟩ = some (.int .i64 x.n) := cell_of_row wB wA.heap.size 0 _ _ (0, 0) HX.out
          have m1 : wB.cell? ⟨wA.heap.size, 1, none⟩ = some (.string x.s) := cell_of_row wB wA.heap.size 1 _ _ (0, 0) HX.out
          obtain ⟨ys, hown, hpart⟩ := HG.out.below (HBB.out.nx (al1 wB (.cells #[.int .i64 x.n, .string x.s, .slice av x.m.length cv] 38)))
          have HO := Lib.hid hown
          have HP := Lib.hid hpart
          clear hown hpart
          have hsB := HBB.out.size
          have hsA := HB.out.size
          go_wp2_with (at_builtin; (refine wpList_append_lies _ rfl _ _ 25 rfl w.heap.size 38 i3 _ 3 48 Try.underlying25 hi3 hz3 hs3 hb3 z3 (by omega) u3 (l.take i).length ys rfl HO.out ⟨wB.heap.size, 0, none⟩ 1 1 [.int .i64 x.n, .string x.s, .slice av x.m.length cv] rfl rfl (block_src (heap_alloc_new wB _)) (by simp [Value.oneCell']) (by omega) (by unfold maxLen; omega) (by omega) (by simp; omega) _ rfl ?_); rintro g cap w9 ho9 hg9 hl9 hlt9; (have K9 := grown_step (R := fun b w cs s => RVal L b w (RMsg L b w n) cs s) HG.out HBB.out hsA RV.out rfl HO.out HP.out ho9 hg9 hl9); (obtain ⟨gn, hne', b9⟩ := K9); (have GN := Lib.hid gn); (have B9 := Lib.hid (b9 w (Nat.le_refl _) HB.out)); clear gn hne' b9 ho9 hg9 hl9)
          refine ⟨⟨i + 1, by omega, by simp, Lib.hid (by rw [HT.out]; have q := GN.out; rw [hln] at q; exact q), B9⟩, ?_⟩
          simp [intOf]; omega
    · obtain rfl : i = l.length := by omega
      have HG2 := Lib.hid (show Grown 38 3 w.heap.size wA (fun b w cs s => RVal L b w (RMsg L b w n) cs s) u3 l by have := HG.out; rwa [List.take_length] at this)
      go_wp2_with fail
      exact ⟨rfl, _, results_tmp (t := 2) rfl _ _ _, ⟨_, rfl, HG2.out.row (rval_keepB L n) hlen, HB.out⟩⟩
end
end Go.Proofs.Ytogcnodgpgiacaa
