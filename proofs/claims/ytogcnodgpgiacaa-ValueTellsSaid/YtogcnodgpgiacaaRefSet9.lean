/- Contract of the reference's Set of chapter 9. -/
import Derived.Test.YtogcnodgpgiacaaRefSlot9
import Derived.Test.YtogcnodgpgiacaaSet
import Derived.BigQuiet
namespace Go.Tr
open Go.RowKit
set_option linter.unusedVariables false
/-- A block that is older than the row stays. -/
theorem grown_old {e k base n : Nat} {wA y1 w9 : World} {o o' : Obj} {v : Value} {ys : List Value} {b : Nat} (hb : Below wA.heap.size wA y1) (hown : (y1.alloc o).ownsRow base e k v n ys) (s2 : (y1.alloc o).grownBy w9 v.ownBlock) (hlt : b < base) (hB : wA.heap[b]? = some o') : w9.heap[b]? = some o' := by
  have q1 := ((hb.nx (al1 y1 o)).block b (lt_blk hB)).trans hB
  exact (s2.block b (lt_blk q1) (fun e => by have := (hown.lt b e.symm).1; omega)).trans q1
end Go.Tr
namespace Go.Proofs.Ytogcnodgpgiacaa
open Go.RowKit Go.Tr
set_option linter.unusedVariables false
set_option linter.unusedSimpArgs false
def stepSet (s : Slot) (st : List Slot × Bool) (x : Slot) : List Slot × Bool :=
  if x.no = s.no then st else if x.no > s.no ∧ st.2 = false then (st.1 ++ [s, x], true) else (st.1 ++ [x], st.2)
def runSet (s : Slot) (l : List Slot) : List Slot × Bool := l.foldl (stepSet s) ([], s.v.isEmpty)
theorem fold_true (s : Slot) : ∀ (l o : List Slot), l.foldl (stepSet s) (o, true) = (o ++ l.filter fun x => !isNo s.no x, true)
  | [], o => by simp
  | x :: l, o => by
    rw [List.foldl_cons]
    by_cases h : x.no = s.no
    · rw [stepSet, if_pos h, fold_true s l o]; simp [isNo, h]
    · rw [stepSet, if_neg h, if_neg (by simp), fold_true s l _]; simp [isNo, h]
theorem fold_false (s : Slot) : ∀ (l o : List Slot), (let r := l.filter fun x => !isNo s.no x
    (l.foldl (stepSet s) (o, false) = (o ++ r, false) ∧ r.findIdx? (overNo s.no) = none) ∨ (l.foldl (stepSet s) (o, false) = (o ++ placed r s, true) ∧ (r.findIdx? (overNo s.no)).isSome = true))
  | [], o => Or.inl (by simp)
  | x :: l, o => by
    rw [List.foldl_cons]
    by_cases h : x.no = s.no
    · have ih := fold_false s l o
      rw [stepSet, if_pos h]
      simpa [isNo, h] using ih
    · by_cases hg : x.no > s.no
      · right
        rw [stepSet, if_neg h, if_pos (by simp [hg]), fold_true s l _]
        simp [isNo, h, placed, List.findIdx?_cons, overNo, hg]
      · have ih := fold_false s l (o ++ [x])
        rw [stepSet, if_neg h, if_neg (by simp [hg])]
        have hf : (x :: l).filter (fun x => !isNo s.no x) = x :: l.filter fun x => !isNo s.no x := by simp [isNo, h]
        simp only [hf]
        rcases ih with ⟨h1, h2⟩ | ⟨h1, h2⟩
        · left
          refine ⟨by rw [h1]; simp, ?_⟩
          rw [List.findIdx?_cons, h2]; simp [overNo, hg]
        · right
          refine ⟨?_, ?_⟩
          · rw [h1]
            obtain ⟨k, hk⟩ := Option.isSome_iff_exists.1 h2
            simp [placed, List.findIdx?_cons, overNo, hg, hk]
          · rw [List.findIdx?_cons]
            obtain ⟨k, hk⟩ := Option.isSome_iff_exists.1 h2
            simp [overNo, hg, hk]
theorem runSet_law (m : Msg) (s : Slot) : (if (runSet s m.f).2 then (runSet s m.f).1 else (runSet s m.f).1 ++ [s]) = (setSlot m s).f := by
  unfold runSet setSlot
  by_cases hv : s.v = []
  · rw [hv, if_pos rfl]
    rw [show ([] : List Val).isEmpty = true from rfl, fold_true]
    simp [without]; rfl
  · have he : s.v.isEmpty = false := by simpa using hv
    rw [if_neg hv, he]
    rcases fold_false s m.f [] with ⟨h1, h2⟩ | ⟨h1, h2⟩
    · rw [h1]; simp only [without, placed, h2]; simp; rfl
    · rw [h1]; simp [without]; rfl
theorem runSet_next (s : Slot) (l : List Slot) (x : Slot) : runSet s (l ++ [x]) = stepSet s (runSet s l) x := by simp [runSet, List.foldl_append]
theorem fold_len (s : Slot) : ∀ (l o : List Slot) (b : Bool), ((l.foldl (stepSet s) (o, b)).1.length + (if (l.foldl (stepSet s) (o, b)).2 then 0 else 1) ≤ o.length + l.length + (if b then 0 else 1))
  | [], o, b => Nat.le_refl _
  | x :: l, o, b => by
    rw [List.foldl_cons]
    by_cases h1 : x.no = s.no
    · rw [stepSet, if_pos h1]
      have := fold_len s l o b; simp only [List.length_cons]; omega
    · by_cases h2 : x.no > s.no ∧ b = false
      · rw [stepSet, if_neg h1, if_pos h2]
        have := fold_len s l (o ++ [s, x]) true
        obtain ⟨-, rfl⟩ := h2
        simp only [List.length_cons, List.length_append, List.length_nil, if_true] at *
        rw [if_neg (show ¬ (false = true) by decide)]
        omega
      · rw [stepSet, if_neg h1, if_neg h2]
        have := fold_len s l (o ++ [x]) b
        simp only [List.length_cons, List.length_append, List.length_nil] at *; omega
theorem runSet_len (s : Slot) (l : List Slot) : (runSet s l).1.length + (if (runSet s l).2 then 0 else 1) ≤ l.length + 1 := by
  have h := fold_len s l [] s.v.isEmpty
  unfold runSet
  have h2 : (if s.v.isEmpty = true then 0 else 1) ≤ 1 := by split <;> omega
  simp only [List.length_nil] at h
  omega
/-! THE WALK -/
theorem four (w : World) (o0 o1 o2 o3 : Obj) : ((((w.alloc o0).alloc o1).alloc o2).alloc o3).heap[w.heap.size]? = some o0 ∧ ((((w.alloc o0).alloc o1).alloc o2).alloc o3).heap[w.heap.size + 1]? = some o1 ∧
    ((((w.alloc o0).alloc o1).alloc o2).alloc o3).heap[w.heap.size + 1 + 1]? = some o2 ∧ ((((w.alloc o0).alloc o1).alloc o2).alloc o3).heap[w.heap.size + 1 + 1 + 1]? = some o3 := by
  have e1 : (w.alloc o0).heap.size = w.heap.size + 1 := by simp
  have e2 : ((w.alloc o0).alloc o1).heap.size = w.heap.size + 1 + 1 := by simp
  have e3 : (((w.alloc o0).alloc o1).alloc o2).heap.size = w.heap.size + 1 + 1 + 1 := by simp
  have h0 := heap_alloc_new w o0
  have h1 := heap_alloc_new (w.alloc o0) o1
  have h2 := heap_alloc_new ((w.alloc o0).alloc o1) o2
  have h3 := heap_alloc_new (((w.alloc o0).alloc o1).alloc o2) o3
  rw [e1] at h1
  rw [e2] at h2
  rw [e3] at h3
  have k1 := (al1 (w.alloc o0) o1).block w.heap.size (by omega)
  have k2 := fun b (hb : b < w.heap.size + 1 + 1) => (al1 ((w.alloc o0).alloc o1) o2).block b (by omega)
  have k3 := fun b (hb : b < w.heap.size + 1 + 1 + 1) => (al1 (((w.alloc o0).alloc o1).alloc o2) o3).block b (by omega)
  exact ⟨(k3 _ (by omega)).trans ((k2 _ (by omega)).trans (k1.trans h0)), (k3 _ (by omega)).trans ((k2 _ (by omega)).trans h1), (k3 _ (by omega)).trans h2, h3⟩
section
attribute [local go_sem] run_store
set_option maxHeartbeats 4000000 in
theorem ref_set (L n : Nat) (hL : L ≤ 1048576) (w : World) (cs ds : List Value) (m : Msg) (s : Slot) (hx : RMsg L 0 w (n + 1) cs m) (hs : RSlot L 0 w (RMsg L 0 w n) ds s) (hlm : m.f.length + 1 ≤ L) :
    Calls Try.prog 23 #[.agg cs.toArray, .agg ds.toArray] w fun e w' => ∃ v', e = .returned (.agg #[v']) ∧ RMsg L w.heap.size w' (n + 1) [v'] (setSlot m s) ∧ Below w.heap.size w w' := by
  have HS := Lib.hid fun w' (hb : Below w.heap.size w w') => ref_slot L n hL w' ds s (hs.below hb)
  obtain ⟨c, rfl, h4⟩ := hx
  have H4 := Lib.hid h4
  have HM := Lib.hid fun w' (hb : Below w.heap.size w w') cs' x (hx' : RSlot L 0 w (RMsg L 0 w n) cs' x) => ref_slot L n hL w' cs' x (hx'.below hb)
  obtain ⟨a1, cap1, rfl, q0, q1, q2, -, -⟩ := h4
  unfold maxLen at q2
  obtain ⟨c, d, rfl, hn1, hn2, h5, h6⟩ := hs
  obtain ⟨a2, cap2, rfl, -⟩ := h5
  obtain ⟨a3, cap3, rfl, p0, p1, p2, -, -⟩ := h6
  unfold maxLen at p2
  obtain ⟨i3, hi3, hz3, hs3, hb3⟩ := info_parts (P := Try.prog) (e := 27) (z := .agg #[.int .i64 0, .slice none 0 0, .slice none 0 0]) (size := 3) (bytes := 56) (by kernel_rfl)
  have z3 : (Value.agg #[.int .i64 0, .slice none 0 0, .slice none 0 0]).cells.size = 3 := rfl
  have hsv : (((s.v.length : Int) == 0) : Bool) = s.v.isEmpty := by
    cases s.v with
    | nil => rfl
    | cons a l =>
      have : ((l.length + 1 : Nat) : Int) ≠ 0 := by omega
      simpa using this
  go_enter Try.func23, Try.ntmps23
  go_wp2_with fail
  obtain ⟨g0, g1, g2, g3⟩ := four w (.cells #[.slice a1 m.f.length cap1] 24) (.cells #[.int .i64 s.no, .slice a2 s.k.length cap2, .slice a3 s.v.length cap3] 27) (.cells #[.slice none 0 0] 24) (.cells #[.slice none 0 0] 24)
  have hb := (((al1 w (.cells #[.slice a1 m.f.length cap1] 24)).nx (al1 _ (.cells #[.int .i64 s.no, .slice a2 s.k.length cap2, .slice a3 s.v.length cap3] 27))).nx (al1 _ (.cells #[.slice none 0 0] 24))).nx (al1 _ (.cells #[.slice none 0 0] 24))
  have G0 := Lib.hid g0
  have G1 := Lib.hid g1
  have G2 := Lib.hid g2
  have G3 := Lib.hid g3
  have HB := Lib.hid hb
  clear g0 g1 g2 g3 hb
  generalize (((w.alloc (.cells #[.slice a1 m.f.length cap1] 24)).alloc (.cells #[.int .i64 s.no, .slice a2 s.k.length cap2, .slice a3 s.v.length cap3] 27)).alloc (.cells #[.slice none 0 0] 24)).alloc (.cells #[.slice none 0 0] 24) = wl at *
  go_loopw [6, 7] (fun dv iv wr => ∃ (k : Nat) (vm : Value), k ≤ m.f.length ∧ iv = .int .i64 k ∧ dv = .bool (runSet s (m.f.take k)).2 ∧ Hid (Grown 27 3 (w.heap.size + 4) wr (fun b w cs s => RSlot L b w (RMsg L b w n) cs s) vm (runSet s (m.f.take k)).1) ∧ Hid (wr.heap[w.heap.size]? = some (.cells #[.slice a1 m.f.length cap1] 24 (0, 0))) ∧ Hid (wr.heap[w.heap.size + 1]? = some (.cells #[.int .i64 s.no, .slice a2 s.k.length cap2, .slice a3 s.v.length cap3] 27 (0, 0))) ∧ Hid (wr.heap[w.heap.size + 1 + 1]? = some (.cells #[.slice none 0 0] 24 (0, 0))) ∧ Hid (wr.heap[w.heap.size + 1 + 1 + 1]? = some (.cells #[vm] 24 (0, 0))) ∧ Hid (Below w.heap.size w wr)) (fun _ iv _ => m.f.length - (intOf iv).toNat)
  case atStart => exact ⟨0, .slice none 0 0, Nat.zero_le _, rfl, rfl, Lib.hid (Grown.nil _ _ _ _ _), G0, G1, G2, G3, HB⟩
  case round =>
    rename World => wA
    clear G0 G1 G2 G3 HB
    obtain ⟨i, vm, hi, rfl, rfl, HG, G0, G1, G2, G3, HB⟩ := hrel
    have HLEN := runSet_len s (m.f.take i)
    have hln : (m.f.take i).length = i := by rw [List.length_take]; omega
    have m0 : wA.cell? ⟨w.heap.size, 0, none⟩ = some (.slice a1 m.f.length cap1) := cell_of_row wA w.heap.size 0 _ _ (0, 0) G0.out
    have b0 : wA.cell? ⟨w.heap.size + 1, 0, none⟩ = some (.int .i64 s.no) := cell_of_row wA (w.heap.size + 1) 0 _ _ (0, 0) G1.out
    have b1 : wA.cell? ⟨w.heap.size + 1, 1, none⟩ = some (.slice a2 s.k.length cap2) := cell_of_row wA (w.heap.size + 1) 1 _ _ (0, 0) G1.out
    have b2 : wA.cell? ⟨w.heap.size + 1, 2, none⟩ = some (.slice a3 s.v.length cap3) := cell_of_row wA (w.heap.size + 1) 2 _ _ (0, 0) G1.out
    have mo : wA.cell? ⟨w.heap.size + 1 + 1 + 1, 0, none⟩ = some vm := cell_of_row wA (w.heap.size + 1 + 1 + 1) 0 #[vm] _ (0, 0) G3.out
    have fo : wA.frozen? ⟨w.heap.size + 1 + 1 + 1, 0, none⟩ = false := by simp [World.frozen?, G3.out]
    have lt3 := lt_blk G3.out
    have lt0 := lt_blk G0.out
    have lt1 := lt_blk G1.out
    by_cases hlt : i < m.f.length
    · obtain ⟨bx, ox, c0, c1, c2, e1, -, p0', p1', p2', n0, n1, n2, rx⟩ := H4.out.get3 (rslot_three L 0 n) i hlt
      cases e1
      have RX := Lib.hid rx
      have hc0 : c0 = .int .i64 m.f[i].no := by
        obtain ⟨c, d, e, -⟩ := rx
        simpa using congrArg (fun l => l.head?) e
      subst hc0
      clear rx
      have HN := Lib.hid (show runSet s (m.f.take (i + 1)) = stepSet s (runSet s (m.f.take i)) m.f[i] by rw [List.take_succ_eq_append_getElem hlt, runSet_next])
      rw [hln] at HLEN
      generalize runSet s (m.f.take i) = st at *
      generalize m.f[i] = x at *
      obtain ⟨out, dn⟩ := st
      have hol0 : out.length ≤ i + 1 := by
        have h := HLEN
        simp only at h
        omega
      clear HLEN
      have pc0 := (HB.out.cell (block_lt_of_cell p0')).trans p0'
      have pc1 := (HB.out.cell (block_lt_of_cell p1')).trans p1'
      have pc2 := (HB.out.cell (block_lt_of_cell p2')).trans p2'
      have bl := block_lt_of_cell pc0
      by_cases hno : x.no = s.no
      · have d1 : ((x.no : Int) == s.no) = true := by simpa using hno
        have HN2 := Lib.hid (show runSet s (m.f.take (i + 1)) = (out, dn) by rw [HN.out, stepSet, if_pos hno])
        clear hno HN
        go_upto_region 6 with fail
        go_quiet (fail)
        go_wp2_with fail
        have HD := Lib.hid (below_drewN (Below.refl wA.heap.size wA) nq)
        generalize wA.drewN nq = wB at *
        have HG' := Lib.hid (HG.out.below HD.out)
        have G0' := Lib.hid ((HD.out.block _ (lt_blk G0.out)).trans G0.out)
        have G1' := Lib.hid ((HD.out.block _ (lt_blk G1.out)).trans G1.out)
        have G2' := Lib.hid ((HD.out.block _ (lt_blk G2.out)).trans G2.out)
        have G3' := Lib.hid ((HD.out.block _ (lt_blk G3.out)).trans G3.out)
        have HB' := Lib.hid (HB.out.nx HD.out)
        clear HG G0 G1 G2 G3 HB m0 b0 b1 b2 mo fo lt3 lt0 lt1 pc0 pc1 pc2 bl
        have HG := HG'
        clear HG'
        have G0 := G0'
        clear G0'
        have G1 := G1'
        clear G1'
        have G2 := G2'
        clear G2'
        have G3 := G3'
        clear G3'
        have HB := HB'
        clear HB'
        refine ⟨⟨i + 1, vm, by omega, by simp, by rw [HN2.out], by rw [HN2.out]; exact HG, G0, G1, G2, G3, HB⟩, ?_⟩
        simp [intOf]; omega
      · have d1 : ((x.no : Int) == s.no) = false := by simpa using hno
        by_cases hgt : x.no > s.no ∧ dn = false
        · obtain ⟨hg, rfl⟩ := hgt
          have d2 : decide (x.no > s.no) = true := by simpa using hg
          have d3 : decide (s.no < x.no) = true := by simpa using hg
          have HN2 := Lib.hid (show runSet s (m.f.take (i + 1)) = (out ++ [s] ++ [x], true) by rw [HN.out, stepSet, if_neg hno, if_pos ⟨hg, rfl⟩]; simp)
          clear hno HN hg
          go_upto_region 6 with fail
          go_quiet (fail)
          have HD := Lib.hid (below_drewN (Below.refl wA.heap.size wA) nq)
          generalize wA.drewN nq = wB at *
          have HG' := Lib.hid (HG.out.below HD.out)
          have G0' := Lib.hid ((HD.out.block _ (lt_blk G0.out)).trans G0.out)
          have G1' := Lib.hid ((HD.out.block _ (lt_blk G1.out)).trans G1.out)
          have G2' := Lib.hid ((HD.out.block _ (lt_blk G2.out)).trans G2.out)
          have G3' := Lib.hid ((HD.out.block _ (lt_blk G3.out)).trans G3.out)
          have HB' := Lib.hid (HB.out.nx HD.out)
          clear HG G0 G1 G2 G3 HB m0 b0 b1 b2 mo fo lt3 lt0 lt1 pc0 pc1 pc2 bl
          have HG := HG'
          clear HG'
          have G0 := G0'
          clear G0'
          have G1 := G1'
          clear G1'
          have G2 := G2'
          clear G2'
          have G3 := G3'
          clear G3'
          have HB := HB'
          clear HB'
          have m0 : wB.cell? ⟨w.heap.size, 0, none⟩ = some (.slice (some ⟨bx, ox, none⟩) m.f.length cap1) := cell_of_row wB w.heap.size 0 _ _ (0, 0) G0.out
          have b0 : wB.cell? ⟨w.heap.size + 1, 0, none⟩ = some (.int .i64 s.no) := cell_of_row wB (w.heap.size + 1) 0 _ _ (0, 0) G1.out
          have b1 : wB.cell? ⟨w.heap.size + 1, 1, none⟩ = some (.slice a2 s.k.length cap2) := cell_of_row wB (w.heap.size + 1) 1 _ _ (0, 0) G1.out
          have b2 : wB.cell? ⟨w.heap.size + 1, 2, none⟩ = some (.slice a3 s.v.length cap3) := cell_of_row wB (w.heap.size + 1) 2 _ _ (0, 0) G1.out
          have mo : wB.cell? ⟨w.heap.size + 1 + 1 + 1, 0, none⟩ = some vm := cell_of_row wB (w.heap.size + 1 + 1 + 1) 0 #[vm] _ (0, 0) G3.out
          have fo : wB.frozen? ⟨w.heap.size + 1 + 1 + 1, 0, none⟩ = false := by simp [World.frozen?, G3.out]
          have lt3 := lt_blk G3.out
          have lt0 := lt_blk G0.out
          have lt1 := lt_blk G1.out
          have pc0 := (HB.out.cell (block_lt_of_cell p0')).trans p0'
          have pc1 := (HB.out.cell (block_lt_of_cell p1')).trans p1'
          have pc2 := (HB.out.cell (block_lt_of_cell p2')).trans p2'
          have bl := block_lt_of_cell pc0
          go_upto_region 7 with fail
          go_quiet (fail)
          have HD := Lib.hid (below_drewN (Below.refl wB.heap.size wB) nq)
          generalize wB.drewN nq = wC at *
          have HG' := Lib.hid (HG.out.below HD.out)
          have G0' := Lib.hid ((HD.out.block _ (lt_blk G0.out)).trans G0.out)
          have G1' := Lib.hid ((HD.out.block _ (lt_blk G1.out)).trans G1.out)
          have G2' := Lib.hid ((HD.out.block _ (lt_blk G2.out)).trans G2.out)
          have G3' := Lib.hid ((HD.out.block _ (lt_blk G3.out)).trans G3.out)
          have HB' := Lib.hid (HB.out.nx HD.out)
          clear HG G0 G1 G2 G3 HB m0 b0 b1 b2 mo fo lt3 lt0 lt1 pc0 pc1 pc2 bl
          have HG := HG'
          clear HG'
          have G0 := G0'
          clear G0'
          have G1 := G1'
          clear G1'
          have G2 := G2'
          clear G2'
          have G3 := G3'
          clear G3'
          have HB := HB'
          clear HB'
          have m0 : wC.cell? ⟨w.heap.size, 0, none⟩ = some (.slice (some ⟨bx, ox, none⟩) m.f.length cap1) := cell_of_row wC w.heap.size 0 _ _ (0, 0) G0.out
          have b0 : wC.cell? ⟨w.heap.size + 1, 0, none⟩ = some (.int .i64 s.no) := cell_of_row wC (w.heap.size + 1) 0 _ _ (0, 0) G1.out
          have b1 : wC.cell? ⟨w.heap.size + 1, 1, none⟩ = some (.slice a2 s.k.length cap2) := cell_of_row wC (w.heap.size + 1) 1 _ _ (0, 0) G1.out
          have b2 : wC.cell? ⟨w.heap.size + 1, 2, none⟩ = some (.slice a3 s.v.length cap3) := cell_of_row wC (w.heap.size + 1) 2 _ _ (0, 0) G1.out
          have mo : wC.cell? ⟨w.heap.size + 1 + 1 + 1, 0, none⟩ = some vm := cell_of_row wC (w.heap.size + 1 + 1 + 1) 0 #[vm] _ (0, 0) G3.out
          have fo : wC.frozen? ⟨w.heap.size + 1 + 1 + 1, 0, none⟩ = false := by simp [World.frozen?, G3.out]
          have lt3 := lt_blk G3.out
          have lt0 := lt_blk G0.out
          have lt1 := lt_blk G1.out
          have pc0 := (HB.out.cell (block_lt_of_cell p0')).trans p0'
          have pc1 := (HB.out.cell (block_lt_of_cell p1')).trans p1'
          have pc2 := (HB.out.cell (block_lt_of_cell p2')).trans p2'
          have bl := block_lt_of_cell pc0
          have HC := Lib.hid (HS.out wC.drew HB.out.drew)
          go_upto_region 8 with fail
          go_region_law (first
            | (obtain ⟨ys, hown, hpart⟩ := HG.out.below (BY.out.nx (al1 y1 (.cells #[d0, d1, d2] 27))); (refine step_append_lies _ rfl (.tmp 42) (.tmp 45) 22 rfl (w.heap.size + 4) 27 i3 _ 3 56 Try.underlying22 hi3 hz3 hs3 hb3 z3 (by omega) vm out.length ys (by simp [Act.eval, Act.put]) hown ⟨y1.heap.size, 0, none⟩ 1 1 [d0, d1, d2] (by simp [Act.eval, Act.put]) rfl (block_src (heap_alloc_new y1 (.cells #[d0, d1, d2] 27))) (by simp [o0, o1, o2]) (by omega) (by unfold maxLen; omega) (by omega) (by simp; omega) _ rfl ?_); (rintro g cap w9 ho9 hg9 hl9 hlt9);
                (have K9 := grown_step (R := (fun b w cs s => RSlot L b w (RMsg L b w n) cs s)) HG.out (BY.out) (by have := HB.out.size; omega) RS.out rfl hown hpart ho9 hg9 hl9); (obtain ⟨gn, -, b9⟩ := K9); (have GN := Lib.hid gn);
                (have X0 := Lib.hid (grown_old BY.out hown hg9 (by omega) G0.out)); (have X1 := Lib.hid (grown_old BY.out hown hg9 (by omega) G1.out)); (have X2 := Lib.hid (grown_old BY.out hown hg9 (by omega) G2.out)); (have X3 := Lib.hid (grown_old BY.out hown hg9 (by omega) G3.out)); (have B9 := Lib.hid (b9 w (by omega) HB.out)); clear gn b9;
                (have x2 : w9.cell? ⟨w.heap.size + 1 + 1 + 1, 0, none⟩ = some vm := cell_of_row w9 (w.heap.size + 1 + 1 + 1) 0 #[vm] _ (0, 0) X3.out);
                (have xf2 : w9.frozen? ⟨w.heap.size + 1 + 1 + 1, 0, none⟩ = false := (by simp [World.frozen?, X3.out]));
                (have xl := lt_blk X3.out); clear ho9 hg9 hl9 hown hpart)
            | (go_simp; go_at_call 40; (with_reducible refine HC.out.mono ?_); (rintro e y1 ⟨ds, rfl, rs, b1⟩); (obtain ⟨d0, d1, d2, rfl, o0, o1, o2⟩ := rslot_three L wC.drew.heap.size n _ _ _ rs); (have BY := Lib.hid ((Below.refl wC.heap.size wC).drew.nx b1)); (have RS := Lib.hid rs); (have k2 := (BY.out.cell lt3).trans mo); (have kl := Nat.lt_of_lt_of_le lt3 BY.out.size); clear b1 rs)
            | fail)
          all_goals (
            have hs9 : ∀ u, (w9.setCell ⟨w.heap.size + 1 + 1 + 1, 0, none⟩ u).heap[w.heap.size + 1 + 1 + 1]? = some (.cells #[u] 24 (0, 0)) := fun u => by
              have h := heap_setCell_same w9 (w.heap.size + 1 + 1 + 1) 0 _ _ u X3.out
              simpa using h
            clear HG G0 G1 G2 G3 HB m0 b0 b1 b2 mo fo lt3 lt0 lt1 pc0 pc1 pc2 bl HC
            have G3 := Lib.hid (hs9 (.slice (some ⟨g, 0, none⟩) (out.length + 1) cap))
            have HG := Lib.hid (GN.out.set (p := ⟨w.heap.size + 1 + 1 + 1, 0, none⟩) (by simp) (.slice (some ⟨g, 0, none⟩) (out.length + 1) cap))
            have G0 := Lib.hid ((heap_setCell_other w9 ⟨w.heap.size + 1 + 1 + 1, 0, none⟩ _ (.slice (some ⟨g, 0, none⟩) (out.length + 1) cap) (by first | omega | (simp; done) | (simp; omega))).trans X0.out)
            have G1 := Lib.hid ((heap_setCell_other w9 ⟨w.heap.size + 1 + 1 + 1, 0, none⟩ _ (.slice (some ⟨g, 0, none⟩) (out.length + 1) cap) (by first | omega | (simp; done) | (simp; omega))).trans X1.out)
            have G2 := Lib.hid ((heap_setCell_other w9 ⟨w.heap.size + 1 + 1 + 1, 0, none⟩ _ (.slice (some ⟨g, 0, none⟩) (out.length + 1) cap) (by first | omega | (simp; done) | (simp; omega))).trans X2.out)
            have HB := Lib.hid (B9.out.setCell (p := ⟨w.heap.size + 1 + 1 + 1, 0, none⟩) (by first | omega | (simp; done) | (simp; omega)) (.slice (some ⟨g, 0, none⟩) (out.length + 1) cap))
            clear hs9 GN X0 X1 X2 X3 B9 x2 xf2 xl k2 kl BY RS o0 o1 o2
            go_wp2_with fail
            generalize Value.slice (some ⟨g, 0, none⟩) (out.length + 1) cap = vm2 at *
            generalize w9.setCell ⟨w.heap.size + 1 + 1 + 1, 0, none⟩ vm2 = wD at *
            clear hlt9 w9
            have hol : (out ++ [s]).length = out.length + 1 := by simp
            generalize out ++ [s] = out2 at *
            have m0 : wD.cell? ⟨w.heap.size, 0, none⟩ = some (.slice (some ⟨bx, ox, none⟩) m.f.length cap1) := cell_of_row wD w.heap.size 0 _ _ (0, 0) G0.out
            have b0 : wD.cell? ⟨w.heap.size + 1, 0, none⟩ = some (.int .i64 s.no) := cell_of_row wD (w.heap.size + 1) 0 _ _ (0, 0) G1.out
            have b1 : wD.cell? ⟨w.heap.size + 1, 1, none⟩ = some (.slice a2 s.k.length cap2) := cell_of_row wD (w.heap.size + 1) 1 _ _ (0, 0) G1.out
            have b2 : wD.cell? ⟨w.heap.size + 1, 2, none⟩ = some (.slice a3 s.v.length cap3) := cell_of_row wD (w.heap.size + 1) 2 _ _ (0, 0) G1.out
            have mo : wD.cell? ⟨w.heap.size + 1 + 1 + 1, 0, none⟩ = some vm2 := cell_of_row wD (w.heap.size + 1 + 1 + 1) 0 #[vm2] _ (0, 0) G3.out
            have fo : wD.frozen? ⟨w.heap.size + 1 + 1 + 1, 0, none⟩ = false := by simp [World.frozen?, G3.out]
            have lt3 := lt_blk G3.out
            have lt0 := lt_blk G0.out
            have lt1 := lt_blk G1.out
            have pc0 := (HB.out.cell (block_lt_of_cell p0')).trans p0'
            have pc1 := (HB.out.cell (block_lt_of_cell p1')).trans p1'
            have pc2 := (HB.out.cell (block_lt_of_cell p2')).trans p2'
            have bl := block_lt_of_cell pc0
            have HC := Lib.hid (HM.out wD.drew (HB.out.drew) _ _ RX.out)
            go_upto_region 10 with fail
            go_region_law (first
              | (obtain ⟨ys, hown, hpart⟩ := HG.out.below (BY.out.nx (al1 y1 (.cells #[d0, d1, d2] 27))); (refine step_append_lies _ rfl (.tmp 49) (.tmp 56) 22 rfl (w.heap.size + 4) 27 i3 _ 3 56 Try.underlying22 hi3 hz3 hs3 hb3 z3 (by omega) vm2 out2.length ys (by simp [Act.eval, Act.put]) hown ⟨y1.heap.size, 0, none⟩ 1 1 [d0, d1, d2] (by simp [Act.eval, Act.put]) rfl (block_src (heap_alloc_new y1 (.cells #[d0, d1, d2] 27))) (by simp [o0, o1, o2]) (by omega) (by unfold maxLen; omega) (by omega) (by simp; omega) _ rfl ?_); (rintro g cap w9 ho9 hg9 hl9 hlt9);
                  (have K9 := grown_step (R := (fun b w cs s => RSlot L b w (RMsg L b w n) cs s)) HG.out (BY.out) (by have := HB.out.size; omega) RS.out rfl hown hpart ho9 hg9 hl9); (obtain ⟨gn, -, b9⟩ := K9); (have GN := Lib.hid gn);
                  (have X0 := Lib.hid (grown_old BY.out hown hg9 (by omega) G0.out)); (have X1 := Lib.hid (grown_old BY.out hown hg9 (by omega) G1.out)); (have X2 := Lib.hid (grown_old BY.out hown hg9 (by omega) G2.out)); (have X3 := Lib.hid (grown_old BY.out hown hg9 (by omega) G3.out)); (have B9 := Lib.hid (b9 w (by omega) HB.out)); clear gn b9;
                  (have x2 : w9.cell? ⟨w.heap.size + 1 + 1 + 1, 0, none⟩ = some vm2 := cell_of_row w9 (w.heap.size + 1 + 1 + 1) 0 #[vm2] _ (0, 0) X3.out);
                  (have xf2 : w9.frozen? ⟨w.heap.size + 1 + 1 + 1, 0, none⟩ = false := (by simp [World.frozen?, X3.out]));
                  (have xl := lt_blk X3.out); clear ho9 hg9 hl9 hown hpart)
              | (go_simp; go_at_call 40; (with_reducible refine HC.out.mono ?_); (rintro e y1 ⟨ds, rfl, rs, b1⟩); (obtain ⟨d0, d1, d2, rfl, o0, o1, o2⟩ := rslot_three L wD.drew.heap.size n _ _ _ rs); (have BY := Lib.hid ((Below.refl wD.heap.size wD).drew.nx b1)); (have RS := Lib.hid rs); (have k2 := (BY.out.cell lt3).trans mo); (have kl := Nat.lt_of_lt_of_le lt3 BY.out.size); clear b1 rs)
              | fail)
            all_goals (go_wp2_with fail; go_roundw)
            all_goals first
              | (simp [intOf]; omega)
              | (have hs9 : ∀ u, (w9.setCell ⟨w.heap.size + 1 + 1 + 1, 0, none⟩ u).heap[w.heap.size + 1 + 1 + 1]? = some (.cells #[u] 24 (0, 0)) := fun u => by
                   have h := heap_setCell_same w9 (w.heap.size + 1 + 1 + 1) 0 _ _ u X3.out
                   simpa using h
                 exact ⟨i + 1, .slice (some ⟨g, 0, none⟩) (out.length + 1 + 1) cap, by omega, by simp, by rw [HN2.out], Lib.hid (by rw [HN2.out]; first | exact GN.out.set (by simp) _ | (rw [← hol]; exact GN.out.set (by simp) _)), Lib.hid ((heap_setCell_other w9 _ _ _ (by first | omega | (simp; done) | (simp; omega))).trans X0.out), Lib.hid ((heap_setCell_other w9 _ _ _ (by first | omega | (simp; done) | (simp; omega))).trans X1.out), Lib.hid ((heap_setCell_other w9 _ _ _ (by first | omega | (simp; done) | (simp; omega))).trans X2.out), Lib.hid (hs9 _), Lib.hid (B9.out.setCell (by first | omega | (simp; done) | (simp; omega)) _)⟩)
            )
        · have HN2 := Lib.hid (show runSet s (m.f.take (i + 1)) = (out ++ [x], dn) by rw [HN.out, stepSet, if_neg hno, if_neg hgt])
          cases hd : decide (x.no > s.no) with
          | false =>
            have d3 : decide (s.no < x.no) = false := by simpa using hd
            clear hno HN hgt
            go_upto_region 6 with fail
            go_quiet (fail)
            have HD := Lib.hid (below_drewN (Below.refl wA.heap.size wA) nq)
            generalize wA.drewN nq = wB at *
            have HG' := Lib.hid (HG.out.below HD.out)
            have G0' := Lib.hid ((HD.out.block _ (lt_blk G0.out)).trans G0.out)
            have G1' := Lib.hid ((HD.out.block _ (lt_blk G1.out)).trans G1.out)
            have G2' := Lib.hid ((HD.out.block _ (lt_blk G2.out)).trans G2.out)
            have G3' := Lib.hid ((HD.out.block _ (lt_blk G3.out)).trans G3.out)
            have HB' := Lib.hid (HB.out.nx HD.out)
            clear HG G0 G1 G2 G3 HB m0 b0 b1 b2 mo fo lt3 lt0 lt1 pc0 pc1 pc2 bl
            have HG := HG'
            clear HG'
            have G0 := G0'
            clear G0'
            have G1 := G1'
            clear G1'
            have G2 := G2'
            clear G2'
            have G3 := G3'
            clear G3'
            have HB := HB'
            clear HB'
            have m0 : wB.cell? ⟨w.heap.size, 0, none⟩ = some (.slice (some ⟨bx, ox, none⟩) m.f.length cap1) := cell_of_row wB w.heap.size 0 _ _ (0, 0) G0.out
            have b0 : wB.cell? ⟨w.heap.size + 1, 0, none⟩ = some (.int .i64 s.no) := cell_of_row wB (w.heap.size + 1) 0 _ _ (0, 0) G1.out
            have b1 : wB.cell? ⟨w.heap.size + 1, 1, none⟩ = some (.slice a2 s.k.length cap2) := cell_of_row wB (w.heap.size + 1) 1 _ _ (0, 0) G1.out
            have b2 : wB.cell? ⟨w.heap.size + 1, 2, none⟩ = some (.slice a3 s.v.length cap3) := cell_of_row wB (w.heap.size + 1) 2 _ _ (0, 0) G1.out
            have mo : wB.cell? ⟨w.heap.size + 1 + 1 + 1, 0, none⟩ = some vm := cell_of_row wB (w.heap.size + 1 + 1 + 1) 0 #[vm] _ (0, 0) G3.out
            have fo : wB.frozen? ⟨w.heap.size + 1 + 1 + 1, 0, none⟩ = false := by simp [World.frozen?, G3.out]
            have lt3 := lt_blk G3.out
            have lt0 := lt_blk G0.out
            have lt1 := lt_blk G1.out
            have pc0 := (HB.out.cell (block_lt_of_cell p0')).trans p0'
            have pc1 := (HB.out.cell (block_lt_of_cell p1')).trans p1'
            have pc2 := (HB.out.cell (block_lt_of_cell p2')).trans p2'
            have bl := block_lt_of_cell pc0
            go_upto_region 7 with fail
            go_quiet (fail)
            have HD := Lib.hid (below_drewN (Below.refl wB.heap.size wB) nq)
            generalize wB.drewN nq = wC at *
            have HG' := Lib.hid (HG.out.below HD.out)
            have G0' := Lib.hid ((HD.out.block _ (lt_blk G0.out)).trans G0.out)
            have G1' := Lib.hid ((HD.out.block _ (lt_blk G1.out)).trans G1.out)
            have G2' := Lib.hid ((HD.out.block _ (lt_blk G2.out)).trans G2.out)
            have G3' := Lib.hid ((HD.out.block _ (lt_blk G3.out)).trans G3.out)
            have HB' := Lib.hid (HB.out.nx HD.out)
            clear HG G0 G1 G2 G3 HB m0 b0 b1 b2 mo fo lt3 lt0 lt1 pc0 pc1 pc2 bl
            have HG := HG'
            clear HG'
            have G0 := G0'
            clear G0'
            have G1 := G1'
            clear G1'
            have G2 := G2'
            clear G2'
            have G3 := G3'
            clear G3'
            have HB := HB'
            clear HB'
            have m0 : wC.cell? ⟨w.heap.size, 0, none⟩ = some (.slice (some ⟨bx, ox, none⟩) m.f.length cap1) := cell_of_row wC w.heap.size 0 _ _ (0, 0) G0.out
            have b0 : wC.cell? ⟨w.heap.size + 1, 0, none⟩ = some (.int .i64 s.no) := cell_of_row wC (w.heap.size + 1) 0 _ _ (0, 0) G1.out
            have b1 : wC.cell? ⟨w.heap.size + 1, 1, none⟩ = some (.slice a2 s.k.length cap2) := cell_of_row wC (w.heap.size + 1) 1 _ _ (0, 0) G1.out
            have b2 : wC.cell? ⟨w.heap.size + 1, 2, none⟩ = some (.slice a3 s.v.length cap3) := cell_of_row wC (w.heap.size + 1) 2 _ _ (0, 0) G1.out
            have mo : wC.cell? ⟨w.heap.size + 1 + 1 + 1, 0, none⟩ = some vm := cell_of_row wC (w.heap.size + 1 + 1 + 1) 0 #[vm] _ (0, 0) G3.out
            have fo : wC.frozen? ⟨w.heap.size + 1 + 1 + 1, 0, none⟩ = false := by simp [World.frozen?, G3.out]
            have lt3 := lt_blk G3.out
            have lt0 := lt_blk G0.out
            have lt1 := lt_blk G1.out
            have pc0 := (HB.out.cell (block_lt_of_cell p0')).trans p0'
            have pc1 := (HB.out.cell (block_lt_of_cell p1')).trans p1'
            have pc2 := (HB.out.cell (block_lt_of_cell p2')).trans p2'
            have bl := block_lt_of_cell pc0
            have HC := Lib.hid (HM.out wC.drew (HB.out.drew) _ _ RX.out)
            go_upto_region 10 with fail
            go_region_law (first
              | (obtain ⟨ys, hown, hpart⟩ := HG.out.below (BY.out.nx (al1 y1 (.cells #[d0, d1, d2] 27))); (refine step_append_lies _ rfl (.tmp 49) (.tmp 56) 22 rfl (w.heap.size + 4) 27 i3 _ 3 56 Try.underlying22 hi3 hz3 hs3 hb3 z3 (by omega) vm out.length ys (by simp [Act.eval, Act.put]) hown ⟨y1.heap.size, 0, none⟩ 1 1 [d0, d1, d2] (by simp [Act.eval, Act.put]) rfl (block_src (heap_alloc_new y1 (.cells #[d0, d1, d2] 27))) (by simp [o0, o1, o2]) (by omega) (by unfold maxLen; omega) (by omega) (by simp; omega) _ rfl ?_); (rintro g cap w9 ho9 hg9 hl9 hlt9);
                  (have K9 := grown_step (R := (fun b w cs s => RSlot L b w (RMsg L b w n) cs s)) HG.out (BY.out) (by have := HB.out.size; omega) RS.out rfl hown hpart ho9 hg9 hl9); (obtain ⟨gn, -, b9⟩ := K9); (have GN := Lib.hid gn);
                  (have X0 := Lib.hid (grown_old BY.out hown hg9 (by omega) G0.out)); (have X1 := Lib.hid (grown_old BY.out hown hg9 (by omega) G1.out)); (have X2 := Lib.hid (grown_old BY.out hown hg9 (by omega) G2.out)); (have X3 := Lib.hid (grown_old BY.out hown hg9 (by omega) G3.out)); (have B9 := Lib.hid (b9 w (by omega) HB.out)); clear gn b9;
                  (have x2 : w9.cell? ⟨w.heap.size + 1 + 1 + 1, 0, none⟩ = some vm := cell_of_row w9 (w.heap.size + 1 + 1 + 1) 0 #[vm] _ (0, 0) X3.out);
                  (have xf2 : w9.frozen? ⟨w.heap.size + 1 + 1 + 1, 0, none⟩ = false := (by simp [World.frozen?, X3.out]));
                  (have xl := lt_blk X3.out); clear ho9 hg9 hl9 hown hpart)
              | (go_simp; go_at_call 40; (with_reducible refine HC.out.mono ?_); (rintro e y1 ⟨ds, rfl, rs, b1⟩); (obtain ⟨d0, d1, d2, rfl, o0, o1, o2⟩ := rslot_three L wC.drew.heap.size n _ _ _ rs); (have BY := Lib.hid ((Below.refl wC.heap.size wC).drew.nx b1)); (have RS := Lib.hid rs); (have k2 := (BY.out.cell lt3).trans mo); (have kl := Nat.lt_of_lt_of_le lt3 BY.out.size); clear b1 rs)
              | fail)
            all_goals (go_wp2_with fail; go_roundw)
            all_goals first
              | (simp [intOf]; omega)
              | (have hs9 : ∀ u, (w9.setCell ⟨w.heap.size + 1 + 1 + 1, 0, none⟩ u).heap[w.heap.size + 1 + 1 + 1]? = some (.cells #[u] 24 (0, 0)) := fun u => by
                   have h := heap_setCell_same w9 (w.heap.size + 1 + 1 + 1) 0 _ _ u X3.out
                   simpa using h
                 exact ⟨i + 1, .slice (some ⟨g, 0, none⟩) (out.length + 1) cap, by omega, by simp, by rw [HN2.out], Lib.hid (by rw [HN2.out]; first | exact GN.out.set (by simp) _ | (rw [← hol]; exact GN.out.set (by simp) _)), Lib.hid ((heap_setCell_other w9 _ _ _ (by first | omega | (simp; done) | (simp; omega))).trans X0.out), Lib.hid ((heap_setCell_other w9 _ _ _ (by first | omega | (simp; done) | (simp; omega))).trans X1.out), Lib.hid ((heap_setCell_other w9 _ _ _ (by first | omega | (simp; done) | (simp; omega))).trans X2.out), Lib.hid (hs9 _), Lib.hid (B9.out.setCell (by first | omega | (simp; done) | (simp; omega)) _)⟩)
          | true =>
            have d3 : decide (s.no < x.no) = true := by simpa using hd
            obtain rfl : dn = true := by
              have h1 : x.no > s.no := by simpa using hd
              cases dn
              · exact absurd ⟨h1, rfl⟩ hgt
              · rfl
            clear hno HN hgt
            go_upto_region 6 with fail
            go_quiet (fail)
            have HD := Lib.hid (below_drewN (Below.refl wA.heap.size wA) nq)
            generalize wA.drewN nq = wB at *
            have HG' := Lib.hid (HG.out.below HD.out)
            have G0' := Lib.hid ((HD.out.block _ (lt_blk G0.out)).trans G0.out)
            have G1' := Lib.hid ((HD.out.block _ (lt_blk G1.out)).trans G1.out)
            have G2' := Lib.hid ((HD.out.block _ (lt_blk G2.out)).trans G2.out)
            have G3' := Lib.hid ((HD.out.block _ (lt_blk G3.out)).trans G3.out)
            have HB' := Lib.hid (HB.out.nx HD.out)
            clear HG G0 G1 G2 G3 HB m0 b0 b1 b2 mo fo lt3 lt0 lt1 pc0 pc1 pc2 bl
            have HG := HG'
            clear HG'
            have G0 := G0'
            clear G0'
            have G1 := G1'
            clear G1'
            have G2 := G2'
            clear G2'
            have G3 := G3'
            clear G3'
            have HB := HB'
            clear HB'
            have m0 : wB.cell? ⟨w.heap.size, 0, none⟩ = some (.slice (some ⟨bx, ox, none⟩) m.f.length cap1) := cell_of_row wB w.heap.size 0 _ _ (0, 0) G0.out
            have b0 : wB.cell? ⟨w.heap.size + 1, 0, none⟩ = some (.int .i64 s.no) := cell_of_row wB (w.heap.size + 1) 0 _ _ (0, 0) G1.out
            have b1 : wB.cell? ⟨w.heap.size + 1, 1, none⟩ = some (.slice a2 s.k.length cap2) := cell_of_row wB (w.heap.size + 1) 1 _ _ (0, 0) G1.out
            have b2 : wB.cell? ⟨w.heap.size + 1, 2, none⟩ = some (.slice a3 s.v.length cap3) := cell_of_row wB (w.heap.size + 1) 2 _ _ (0, 0) G1.out
            have mo : wB.cell? ⟨w.heap.size + 1 + 1 + 1, 0, none⟩ = some vm := cell_of_row wB (w.heap.size + 1 + 1 + 1) 0 #[vm] _ (0, 0) G3.out
            have fo : wB.frozen? ⟨w.heap.size + 1 + 1 + 1, 0, none⟩ = false := by simp [World.frozen?, G3.out]
            have lt3 := lt_blk G3.out
            have lt0 := lt_blk G0.out
            have lt1 := lt_blk G1.out
            have pc0 := (HB.out.cell (block_lt_of_cell p0')).trans p0'
            have pc1 := (HB.out.cell (block_lt_of_cell p1')).trans p1'
            have pc2 := (HB.out.cell (block_lt_of_cell p2')).trans p2'
            have bl := block_lt_of_cell pc0
            go_upto_region 7 with fail
            go_quiet (fail)
            have HD := Lib.hid (below_drewN (Below.refl wB.heap.size wB) nq)
            generalize wB.drewN nq = wC at *
            have HG' := Lib.hid (HG.out.below HD.out)
            have G0' := Lib.hid ((HD.out.block _ (lt_blk G0.out)).trans G0.out)
            have G1' := Lib.hid ((HD.out.block _ (lt_blk G1.out)).trans G1.out)
            have G2' := Lib.hid ((HD.out.block _ (lt_blk G2.out)).trans G2.out)
            have G3' := Lib.hid ((HD.out.block _ (lt_blk G3.out)).trans G3.out)
            have HB' := Lib.hid (HB.out.nx HD.out)
            clear HG G0 G1 G2 G3 HB m0 b0 b1 b2 mo fo lt3 lt0 lt1 pc0 pc1 pc2 bl
            have HG := HG'
            clear HG'
            have G0 := G0'
            clear G0'
            have G1 := G1'
            clear G1'
            have G2 := G2'
            clear G2'
            have G3 := G3'
            clear G3'
            have HB := HB'
            clear HB'
            have m0 : wC.cell? ⟨w.heap.size, 0, none⟩ = some (.slice (some ⟨bx, ox, none⟩) m.f.length cap1) := cell_of_row wC w.heap.size 0 _ _ (0, 0) G0.out
            have b0 : wC.cell? ⟨w.heap.size + 1, 0, none⟩ = some (.int .i64 s.no) := cell_of_row wC (w.heap.size + 1) 0 _ _ (0, 0) G1.out
            have b1 : wC.cell? ⟨w.heap.size + 1, 1, none⟩ = some (.slice a2 s.k.length cap2) := cell_of_row wC (w.heap.size + 1) 1 _ _ (0, 0) G1.out
            have b2 : wC.cell? ⟨w.heap.size + 1, 2, none⟩ = some (.slice a3 s.v.length cap3) := cell_of_row wC (w.heap.size + 1) 2 _ _ (0, 0) G1.out
            have mo : wC.cell? ⟨w.heap.size + 1 + 1 + 1, 0, none⟩ = some vm := cell_of_row wC (w.heap.size + 1 + 1 + 1) 0 #[vm] _ (0, 0) G3.out
            have fo : wC.frozen? ⟨w.heap.size + 1 + 1 + 1, 0, none⟩ = false := by simp [World.frozen?, G3.out]
            have lt3 := lt_blk G3.out
            have lt0 := lt_blk G0.out
            have lt1 := lt_blk G1.out
            have pc0 := (HB.out.cell (block_lt_of_cell p0')).trans p0'
            have pc1 := (HB.out.cell (block_lt_of_cell p1')).trans p1'
            have pc2 := (HB.out.cell (block_lt_of_cell p2')).trans p2'
            have bl := block_lt_of_cell pc0
            have HC := Lib.hid (HM.out wC.drew (HB.out.drew) _ _ RX.out)
            go_upto_region 10 with fail
            go_region_law (first
              | (obtain ⟨ys, hown, hpart⟩ := HG.out.below (BY.out.nx (al1 y1 (.cells #[d0, d1, d2] 27))); (refine step_append_lies _ rfl (.tmp 49) (.tmp 56) 22 rfl (w.heap.size + 4) 27 i3 _ 3 56 Try.underlying22 hi3 hz3 hs3 hb3 z3 (by omega) vm out.length ys (by simp [Act.eval, Act.put]) hown ⟨y1.heap.size, 0, none⟩ 1 1 [d0, d1, d2] (by simp [Act.eval, Act.put]) rfl (block_src (heap_alloc_new y1 (.cells #[d0, d1, d2] 27))) (by simp [o0, o1, o2]) (by omega) (by unfold maxLen; omega) (by omega) (by simp; omega) _ rfl ?_); (rintro g cap w9 ho9 hg9 hl9 hlt9);
                  (have K9 := grown_step (R := (fun b w cs s => RSlot L b w (RMsg L b w n) cs s)) HG.out (BY.out) (by have := HB.out.size; omega) RS.out rfl hown hpart ho9 hg9 hl9); (obtain ⟨gn, -, b9⟩ := K9); (have GN := Lib.hid gn);
                  (have X0 := Lib.hid (grown_old BY.out hown hg9 (by omega) G0.out)); (have X1 := Lib.hid (grown_old BY.out hown hg9 (by omega) G1.out)); (have X2 := Lib.hid (grown_old BY.out hown hg9 (by omega) G2.out)); (have X3 := Lib.hid (grown_old BY.out hown hg9 (by omega) G3.out)); (have B9 := Lib.hid (b9 w (by omega) HB.out)); clear gn b9;
                  (have x2 : w9.cell? ⟨w.heap.size + 1 + 1 + 1, 0, none⟩ = some vm := cell_of_row w9 (w.heap.size + 1 + 1 + 1) 0 #[vm] _ (0, 0) X3.out);
                  (have xf2 : w9.frozen? ⟨w.heap.size + 1 + 1 + 1, 0, none⟩ = false := (by simp [World.frozen?, X3.out]));
                  (have xl := lt_blk X3.out); clear ho9 hg9 hl9 hown hpart)
              | (go_simp; go_at_call 40; (with_reducible refine HC.out.mono ?_); (rintro e y1 ⟨ds, rfl, rs, b1⟩); (obtain ⟨d0, d1, d2, rfl, o0, o1, o2⟩ := rslot_three L wC.drew.heap.size n _ _ _ rs); (have BY := Lib.hid ((Below.refl wC.heap.size wC).drew.nx b1)); (have RS := Lib.hid rs); (have k2 := (BY.out.cell lt3).trans mo); (have kl := Nat.lt_of_lt_of_le lt3 BY.out.size); clear b1 rs)
              | fail)
            all_goals (go_wp2_with fail; go_roundw)
            all_goals first
              | (simp [intOf]; omega)
              | (have hs9 : ∀ u, (w9.setCell ⟨w.heap.size + 1 + 1 + 1, 0, none⟩ u).heap[w.heap.size + 1 + 1 + 1]? = some (.cells #[u] 24 (0, 0)) := fun u => by
                   have h := heap_setCell_same w9 (w.heap.size + 1 + 1 + 1) 0 _ _ u X3.out
                   simpa using h
                 exact ⟨i + 1, .slice (some ⟨g, 0, none⟩) (out.length + 1) cap, by omega, by simp, by rw [HN2.out], Lib.hid (by rw [HN2.out]; first | exact GN.out.set (by simp) _ | (rw [← hol]; exact GN.out.set (by simp) _)), Lib.hid ((heap_setCell_other w9 _ _ _ (by first | omega | (simp; done) | (simp; omega))).trans X0.out), Lib.hid ((heap_setCell_other w9 _ _ _ (by first | omega | (simp; done) | (simp; omega))).trans X1.out), Lib.hid ((heap_setCell_other w9 _ _ _ (by first | omega | (simp; done) | (simp; omega))).trans X2.out), Lib.hid (hs9 _), Lib.hid (B9.out.setCell (by first | omega | (simp; done) | (simp; omega)) _)⟩)
    · obtain rfl : i = m.f.length := by omega
      have HL := Lib.hid (runSet_law m s)
      rw [List.take_length] at HG HLEN ⊢
      generalize runSet s m.f = st at *
      obtain ⟨out, dn⟩ := st
      have m2 : wA.cell? ⟨w.heap.size + 1 + 1, 0, none⟩ = some (.slice none 0 0) := cell_of_row wA (w.heap.size + 1 + 1) 0 _ _ (0, 0) G2.out
      have f2 : wA.frozen? ⟨w.heap.size + 1 + 1, 0, none⟩ = false := by simp [World.frozen?, G2.out]
      have lt2 := lt_blk G2.out
      cases dn with
      | true =>
        have HL2 := Lib.hid (show out = (setSlot m s).f from HL.out)
        have hol : out.length ≤ L := by
          have h := HLEN
          simp only [if_true] at h
          omega
        clear HL HLEN
        have HR := (HG.out.set (p := ⟨w.heap.size + 1 + 1, 0, none⟩) (by simp) vm).row (L := L) (rslot_keepB L n) hol
        have HR1 := HR
        obtain ⟨av, capv, hvm, -⟩ := HR1
        subst hvm
        go_wp2_with fail
        exact bodyPost_ret (v := .agg #[.slice av out.length capv]) (results_cell_mid rfl _ _ (w.heap.size + 1 + 1) 0 [_] _ rfl (World.rangeAt_setCells_same wA (w.heap.size + 1 + 1) 0 [_] fun j hj => ⟨by match j, hj with
          | 0, _ => rw [m2]; rfl, by match j, hj with
          | 0, _ => exact f2⟩) Try.underlying24 rfl (by kernel_rfl)) rfl ⟨_, rfl, ⟨_, rfl, by rw [← HL2.out]; exact HR.gen hol (by omega) (Keeps.refl _ _) fun _ _ _ h => rslot_keepB L n _ _ _ _ _ _ (by omega) (Keeps.refl _ _) h⟩, HB.out.setCell (by first | omega | (simp; done) | (simp; omega)) _⟩
      | false =>
        have HL2 := Lib.hid (show out ++ [s] = (setSlot m s).f from HL.out)
        have hol0 : out.length + 1 ≤ L := by
          have h := HLEN
          simp only [Bool.false_eq_true, if_false] at h
          omega
        clear HL HLEN
        have HC := Lib.hid (HS.out wA.drew HB.out.drew)
        go_upto_region 12 with fail
        go_region_law (first
          | (obtain ⟨ys, hown, hpart⟩ := HG.out.below (BY.out.nx (al1 y1 (.cells #[d0, d1, d2] 27))); (refine step_append_lies _ rfl (.tmp 62) (.tmp 65) 22 rfl (w.heap.size + 4) 27 i3 _ 3 56 Try.underlying22 hi3 hz3 hs3 hb3 z3 (by omega) vm out.length ys (by simp [Act.eval, Act.put]) hown ⟨y1.heap.size, 0, none⟩ 1 1 [d0, d1, d2] (by simp [Act.eval, Act.put]) rfl (block_src (heap_alloc_new y1 (.cells #[d0, d1, d2] 27))) (by simp [o0, o1, o2]) (by omega) (by unfold maxLen; omega) (by omega) (by simp; omega) _ rfl ?_); (rintro g cap w9 ho9 hg9 hl9 hlt9);
              (have K9 := grown_step (R := (fun b w cs s => RSlot L b w (RMsg L b w n) cs s)) HG.out (BY.out) (by have := HB.out.size; omega) RS.out rfl hown hpart ho9 hg9 hl9); (obtain ⟨gn, -, b9⟩ := K9); (have GN := Lib.hid gn);
              (have X0 := Lib.hid (grown_old BY.out hown hg9 (by omega) G0.out)); (have X1 := Lib.hid (grown_old BY.out hown hg9 (by omega) G1.out)); (have X2 := Lib.hid (grown_old BY.out hown hg9 (by omega) G2.out)); (have X3 := Lib.hid (grown_old BY.out hown hg9 (by omega) G3.out)); (have B9 := Lib.hid (b9 w (by omega) HB.out)); clear gn b9;
              (have x2 : w9.cell? ⟨w.heap.size + 1 + 1 + 1, 0, none⟩ = some vm := cell_of_row w9 (w.heap.size + 1 + 1 + 1) 0 #[vm] _ (0, 0) X3.out);
              (have xf2 : w9.frozen? ⟨w.heap.size + 1 + 1 + 1, 0, none⟩ = false := (by simp [World.frozen?, X3.out]));
              (have xl := lt_blk X3.out); clear ho9 hg9 hl9 hown hpart)
          | (go_simp; go_at_call 40; (with_reducible refine HC.out.mono ?_); (rintro e y1 ⟨ds, rfl, rs, b1⟩); (obtain ⟨d0, d1, d2, rfl, o0, o1, o2⟩ := rslot_three L wA.drew.heap.size n _ _ _ rs); (have BY := Lib.hid ((Below.refl wA.heap.size wA).drew.nx b1)); (have RS := Lib.hid rs); (have k2 := (BY.out.cell lt3).trans mo); (have kl := Nat.lt_of_lt_of_le lt3 BY.out.size); clear b1 rs)
          | fail)
        all_goals (
          have y2 : w9.cell? ⟨w.heap.size + 1 + 1, 0, none⟩ = some (.slice none 0 0) := cell_of_row w9 (w.heap.size + 1 + 1) 0 _ _ (0, 0) X2.out
          have yf2 : w9.frozen? ⟨w.heap.size + 1 + 1, 0, none⟩ = false := by simp [World.frozen?, X2.out]
          have yl := lt_blk X2.out
          have hol : (out ++ [s]).length ≤ L := by simp; omega
          have HR := ((GN.out.set (p := ⟨w.heap.size + 1 + 1 + 1, 0, none⟩) (by simp) (.slice (some ⟨g, 0, none⟩) (out.length + 1) cap)).set (p := ⟨w.heap.size + 1 + 1, 0, none⟩) (by simp) (.slice (some ⟨g, 0, none⟩) (out.length + 1) cap)).row (L := L) (rslot_keepB L n) hol
          have y2' : ∀ u, (w9.setCell ⟨w.heap.size + 1 + 1 + 1, 0, none⟩ u).cell? ⟨w.heap.size + 1 + 1, 0, none⟩ = some (.slice none 0 0) := fun u => (World.cell?_setCell_other _ _ _ _ (fun e => by simp at e)).trans y2
          have yf2' : ∀ u, (w9.setCell ⟨w.heap.size + 1 + 1 + 1, 0, none⟩ u).frozen? ⟨w.heap.size + 1 + 1, 0, none⟩ = false := fun u => by rw [World.frozen?_setCell]; exact yf2
          go_wp2_with fail
          exact bodyPost_ret (v := .agg #[.slice (some ⟨g, 0, none⟩) (out.length + 1) cap]) (results_cell_mid rfl _ _ (w.heap.size + 1 + 1) 0 [_] _ rfl (World.rangeAt_setCells_same (w9.setCell ⟨w.heap.size + 1 + 1 + 1, 0, none⟩ _) (w.heap.size + 1 + 1) 0 [_] fun j hj => ⟨by match j, hj with
            | 0, _ => rw [y2']; rfl, by match j, hj with
            | 0, _ => exact yf2' _⟩) Try.underlying24 rfl (by kernel_rfl)) rfl ⟨_, rfl, ⟨_, rfl, by rw [← HL2.out]; exact HR.gen hol (by omega) (Keeps.refl _ _) fun _ _ _ h => rslot_keepB L n _ _ _ _ _ _ (by omega) (Keeps.refl _ _) h⟩, (B9.out.setCell (by first | omega | (simp; done) | (simp; omega)) _).setCell (by first | omega | (simp; done) | (simp; omega)) _⟩)
end
end Go.Proofs.Ytogcnodgpgiacaa
