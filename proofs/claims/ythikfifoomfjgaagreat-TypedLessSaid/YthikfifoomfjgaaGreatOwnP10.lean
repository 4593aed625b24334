/- Rows of one's own: what stays. (Seats without chapter 9's laws.) A row of one's own that grows by append, its elements made one behind the other in blocks of their own. Contracts of the reference's Own, Slot and Each of chapter 9: a tree of one's own. Contract of the reference's Each of chapter 9: values of one's own. Contracts of the reference's Slot and Own of chapter 9: slots and messages of one's own. -/
import Derived.Test.YthikfifoomfjgaaGreatValues
import Derived.Test.YthikfifoomfjgaaGreatOpen
import Derived.Test.YthikfifoomfjgaaGreatSetP
import Derived.Test.YthikfifoomfjgaaGreatOwn
import Derived.Deep.AppendLies
import Derived.Deep.RegionLaw
namespace Go.Tr
open Go.RowKit
set_option linter.unusedVariables false
theorem lt_blk {w : World} {b : Nat} {o : Obj} (h : w.heap[b]? = some o) : b < w.heap.size := (Array.getElem?_eq_some_iff.1 h).1
theorem own_keep {w w' : World} {B e k n : Nat} {v : Value} {xs : List Value} (h : w.ownsRow B e k v n xs) (hb : ∀ g o, B ≤ g → w.heap[g]? = some o → w'.heap[g]? = some o) : w'.ownsRow B e k v n xs := by
  obtain ⟨h1, h2⟩ := h
  refine ⟨h1, h2.imp id ?_⟩
  rintro ⟨g, cap, cur, h3, h4, h5, h6⟩
  exact ⟨g, cap, cur, h3, h4, hb g _ h4 h5, h6⟩
theorem own_type {w : World} {B e k n : Nat} {v : Value} {xs : List Value} (h : w.ownsRow B e k v n xs) {b : Nat} {c : Array Value} {t : TypeId} (hb : w.heap[b]? = some (.cells c t (0, 0))) (ht : t ≠ e) : some b ≠ v.ownBlock := by
  intro hv
  rcases h.2 with ⟨h1, -⟩ | ⟨g, cap, cur, h3, h4, h5, h6⟩
  · subst h1; cases hv
  · subst h3
    have : b = g := by injection hv
    subst this
    rw [hb] at h5
    injection h5 with h5
    injection h5 with _ h5 _
    exact ht h5
theorem row_one {α : Type} {L B k b : Nat} {w : World} {R : List Value → α → Prop} {c : Array Value} {t : TypeId} {x : α} (hL : 1 ≤ L) (hB : B ≤ b) (h : w.heap[b]? = some (.cells c t (0, 0))) (hc : c.size = k) (hR : R c.toList x) : RowOf L B w k R (.slice (some ⟨b, 0, none⟩) 1 1) [x] := by
  refine ⟨some ⟨b, 0, none⟩, 1, rfl, by simpa using hL, by simp, by unfold maxLen; omega, by simp, fun _ => ⟨b, 0, rfl, hB, fun i hi => ?_⟩⟩
  have hi0 : i = 0 := by simp at hi; omega
  subst hi0
  refine ⟨c.toList, by simpa using hc, fun j u hj => ?_, hR⟩
  have hj' : c[j]? = some u := by simpa using hj
  simp [World.cell?, h, hj', go_sem]
end Go.Tr
namespace Go.Tr
open Go.RowKit
set_option linter.unusedVariables false
/-- What an element reads as stays so where its blocks stay. -/
def Stable {α : Type} (R : Nat → World → List Value → α → Prop) : Prop := ∀ B B' w w' cs x, B' ≤ B → Keeps B w w' → R B w cs x → R B' w' cs x
/-- An element that was made in the blocks from b on, up to a world's end; the row's own block is none of these. -/
def El {α : Type} (base : Nat) (wr : World) (R : Nat → World → List Value → α → Prop) (v : Value) (cs : List Value) (x : α) : Prop :=
  ∃ (b : Nat) (wi : World), base ≤ b ∧ R b wi cs x ∧ Keeps b wi wr ∧ wi.heap.size ≤ wr.heap.size ∧ ∀ g, v.ownBlock = some g → g < b ∨ wi.heap.size ≤ g
def Grown {α : Type} (e k base : Nat) (wr : World) (R : Nat → World → List Value → α → Prop) (v : Value) (xs : List α) : Prop :=
  ∃ ys, wr.ownsRow base e k v xs.length ys ∧ Part k (El base wr R v) ys xs xs.length
variable {α : Type} {e k base : Nat} {wr w' : World} {R : Nat → World → List Value → α → Prop} {v v' : Value} {xs : List α}
theorem Grown.nil (e k base : Nat) (wr : World) (R : Nat → World → List Value → α → Prop) : Grown e k base wr R (.slice none 0 0) ([] : List α) := ⟨[], World.ownsRow_nil _ _ _ _, Part.nil _ _⟩
theorem El.imp {cs : List Value} {x : α} (h : El base wr R v cs x) (hs : wr.heap.size ≤ w'.heap.size) (hk : ∀ b wi, base ≤ b → wi.heap.size ≤ wr.heap.size → Keeps b wi wr → (∀ g, v.ownBlock = some g → g < b ∨ wi.heap.size ≤ g) → Keeps b wi w' ∧ ∀ g, v'.ownBlock = some g → g < b ∨ wi.heap.size ≤ g) : El base w' R v' cs x := by
  obtain ⟨b, wi, h1, h2, h3, h4, h5⟩ := h
  obtain ⟨h6, h7⟩ := hk b wi h1 h4 h3 h5
  exact ⟨b, wi, h1, h2, h6, Nat.le_trans h4 hs, h7⟩
theorem Grown.below (h : Grown e k base wr R v xs) (hb : Below wr.heap.size wr w') : Grown e k base w' R v xs := by
  obtain ⟨ys, h1, h2⟩ := h
  exact ⟨ys, owns_below h1 hb, h2.imp fun cs x _ hx => hx.imp hb.size fun b wi _ _ hk hg => ⟨hk.trans (Keeps.of_below hb), hg⟩⟩
theorem Grown.set (h : Grown e k base wr R v xs) {p : Addr} (hp : p.block < base) (u : Value) : Grown e k base (wr.setCell p u) R v xs := by
  obtain ⟨ys, h1, h2⟩ := h
  have hs : (wr.setCell p u).heap.size = wr.heap.size := by simp [World.setCell]
  refine ⟨ys, own_keep h1 fun g o hB hg => ?_, h2.imp fun cs x _ hx => hx.imp (by rw [hs]; exact Nat.le_refl _) fun b wi hb _ hk hg => ⟨hk.set (by omega) u, hg⟩⟩
  rw [← hg]
  exact Below.heap_setCell wr p u g (by omega)
/-- One more element. -/
theorem Grown.app {x : α} {cs : List Value} {b : Nat} {wi : World} {ys : List Value} (h1 : wr.ownsRow base e k v xs.length ys) (h2 : Part k (El base wr R v) ys xs xs.length) (hb0 : base ≤ b) (hx : R b wi cs x) (hcs : cs.length = k) (hkp : Keeps b wi wr) (hwi : wi.heap.size ≤ wr.heap.size) (hown : ∀ g, v.ownBlock = some g → g < b)
    (s1 : w'.ownsRow base e k v' (xs.length + 1) (ys ++ cs)) (s2 : wr.grownBy w' v.ownBlock) (s3 : v'.ownBlock = v.ownBlock ∨ ∃ g, v'.ownBlock = some g ∧ wr.heap.size ≤ g) : Grown e k base w' R v' (xs ++ [x]) := by
  have key : ∀ b wi, base ≤ b → wi.heap.size ≤ wr.heap.size → Keeps b wi wr → (∀ g, v.ownBlock = some g → g < b ∨ wi.heap.size ≤ g) → Keeps b wi w' ∧ ∀ g, v'.ownBlock = some g → g < b ∨ wi.heap.size ≤ g := by
    intro b wi _ hsz hk hg
    refine ⟨fun p u hp hu => ?_, fun g hg' => ?_⟩
    · have h0 := hk p u hp hu
      have hlt : p.block < wi.heap.size := block_lt_of_cell hu
      have hne : some p.block ≠ v.ownBlock := fun e => by
        have := hg p.block e.symm
        omega
      exact s2.cell h0 hne
    · rcases s3 with s3 | ⟨g', s3, s4⟩
      · exact hg g (by rw [← s3]; exact hg')
      · rw [s3] at hg'
        injection hg' with hg'
        omega
  refine ⟨ys ++ cs, by simpa using s1, Part.app h1.1 (h2.imp fun cs x _ hx => hx.imp s2.size key) ?_⟩
  intro t ht _
  have ht0 : t = 0 := by simp at ht; omega
  subst ht0
  refine ⟨cs, hcs, fun j u hj => by simpa using hj, ?_⟩
  obtain ⟨k1, k2⟩ := key b wi hb0 hwi hkp fun g hg => Or.inl (hown g hg)
  exact ⟨b, wi, hb0, hx, k1, Nat.le_trans hwi s2.size, k2⟩
/-- One more element, made behind the row, in a box of its own: what the append leaves. -/
theorem grown_step {wA y1 w9 : World} {o : Obj} {x : α} {xs : List α} {cs ys : List Value} {g cap N : Nat} {v : Value} (hG : Grown e k base wA R v xs) (hb : Below wA.heap.size wA y1) (hbase : base ≤ wA.heap.size) (hx : R wA.heap.size y1 cs x) (hcs : cs.length = k)
    (hown : (y1.alloc o).ownsRow base e k v xs.length ys) (hpart : Part k (El base (y1.alloc o) R v) ys xs xs.length) (s1 : w9.ownsRow base e k (.slice (some ⟨g, 0, none⟩) N cap) (xs.length + 1) (ys ++ cs)) (s2 : (y1.alloc o).grownBy w9 v.ownBlock) (s3 : v.ownBlock = some g ∨ g = (y1.alloc o).heap.size) :
    Grown e k base w9 R (.slice (some ⟨g, 0, none⟩) N cap) (xs ++ [x]) ∧ (∀ (b : Nat) (c : Array Value) (t : TypeId), t ≠ e → wA.heap[b]? = some (.cells c t (0, 0)) → w9.heap[b]? = some (.cells c t (0, 0))) ∧ (∀ w : World, w.heap.size ≤ base → Below w.heap.size w wA → Below w.heap.size w w9) := by
  have hsz : y1.heap.size ≤ (y1.alloc o).heap.size := (al1 y1 o).size
  refine ⟨Grown.app hown hpart hbase hx hcs (Keeps.of_below (al1 y1 o)) hsz (fun q hq => ?_) s1 s2 ?_, fun b c t ht hB => ?_, fun w h1 h3 => ?_⟩
  · obtain ⟨ys', hw, -⟩ := hG
    exact (hw.lt q hq).2
  · rcases s3 with h | h
    · exact Or.inl h.symm
    · exact Or.inr ⟨g, rfl, by omega⟩
  · have q1 := ((hb.nx (al1 y1 o)).block b (lt_blk hB)).trans hB
    exact (s2.block b (lt_blk q1) (own_type hown q1 ht)).trans q1
  · have h4 := (h3.nx (hb.nx (al1 y1 o)))
    exact h4.grown s2 h4.size fun q hq => by have := (hown.lt q hq).1; omega
/-- The row, as it reads. -/
theorem Grown.row {L : Nat} (hR : Stable R) (h : Grown e k base wr R v xs) (hL : xs.length ≤ L) : RowOf L base wr k (R base wr) v xs :=
  Has.row (w := wr) (R := El base wr R v) h hL (Nat.le_refl _) (Keeps.refl _ _) fun cs x _ hx => by
    obtain ⟨b, wi, h1, h2, h3, -, -⟩ := hx
    exact hR b base wi wr cs x h1 h3 h2
end Go.Tr
namespace Go.Proofs.YthikfifoomfjgaaGreat
open Go.RowKit Go.Tr
set_option maxRecDepth 100000
set_option linter.unusedVariables false
set_option linter.unusedSimpArgs false
section
attribute [local go_sem] run_store
set_option maxHeartbeats 4000000 in
theorem own_step9G (L n : Nat) (hL : L ≤ 1048576)
    (ih : ∀ w cs s, RSlot L 0 w (RMsg L 0 w n) cs s → Calls Tryz.prog 31 #[.agg cs.toArray] w fun e w' => ∃ ds, e = .returned (.agg ds.toArray) ∧ RSlot L w.heap.size w' (RMsg L w.heap.size w' n) ds s ∧ Below w.heap.size w w')
    (w : World) (cs : List Value) (m : Msg) (hx : RMsg L 0 w (n + 1) cs m) :
    Calls Tryz.prog 13 #[.agg cs.toArray] w fun e w' => ∃ v, e = .returned (.agg #[v]) ∧ Grown 35 3 (w.heap.size + 3) w' (fun b w cs s => RSlot L b w (RMsg L b w n) cs s) v m.f ∧ RMsg L w.heap.size w' (n + 1) [v] m ∧ Below w.heap.size w w' ∧ w.heap.size + 3 ≤ w'.heap.size := by
  obtain ⟨c, rfl, h4⟩ := hx
  have H4 := Lib.hid h4
  have hlen := h4.len
  obtain ⟨a1, cap1, rfl, q0, q1, q2, -, -⟩ := h4
  unfold maxLen at q2
  have HI := Lib.hid ih
  clear ih
  obtain ⟨i3, hi3, hz3, hs3, hb3⟩ := info_parts (P := Tryz.prog) (e := 35) (z := .agg #[.int .i64 0, .slice none 0 0, .slice none 0 0]) (size := 3) (bytes := 56) (by kernel_rfl)
  have z3 : (Value.agg #[.int .i64 0, .slice none 0 0, .slice none 0 0]).cells.size = 3 := rfl
  go_enter Tryz.func13, Tryz.ntmps13
  go_wp2_with fail
  have hb0 : Below w.heap.size w (((w.alloc (.cells #[.slice a1 m.f.length cap1] 28)).alloc (.cells #[.slice none 0 0] 28)).alloc (.cells #[.slice none 0 0] 28)) := ((al1 _ _).nx (al1 _ _)).nx (al1 _ _)
  have g0 : (((w.alloc (.cells #[.slice a1 m.f.length cap1] 28)).alloc (.cells #[.slice none 0 0] 28)).alloc (.cells #[.slice none 0 0] 28)).heap[w.heap.size]? = some (.cells #[.slice a1 m.f.length cap1] 28 (0, 0)) := by
    have h1 := heap_alloc_new w (.cells #[.slice a1 m.f.length cap1] 28)
    have h2 := ((al1 (w.alloc (.cells #[.slice a1 m.f.length cap1] 28)) (.cells #[.slice none 0 0] 28)).block w.heap.size (by simp)).trans h1
    exact ((al1 ((w.alloc (.cells #[.slice a1 m.f.length cap1] 28)).alloc (.cells #[.slice none 0 0] 28)) (.cells #[.slice none 0 0] 28)).block w.heap.size (by simp; omega)).trans h2
  have g1 : (((w.alloc (.cells #[.slice a1 m.f.length cap1] 28)).alloc (.cells #[.slice none 0 0] 28)).alloc (.cells #[.slice none 0 0] 28)).heap[w.heap.size + 1]? = some (.cells #[.slice none 0 0] 28 (0, 0)) := by
    have h1 := heap_alloc_new (w.alloc (.cells #[.slice a1 m.f.length cap1] 28)) (.cells #[.slice none 0 0] 28)
    rw [show (w.alloc (.cells #[.slice a1 m.f.length cap1] 28)).heap.size = w.heap.size + 1 by simp] at h1
    exact ((al1 ((w.alloc (.cells #[.slice a1 m.f.length cap1] 28)).alloc (.cells #[.slice none 0 0] 28)) (.cells #[.slice none 0 0] 28)).block (w.heap.size + 1) (by simp)).trans h1
  have g2 : (((w.alloc (.cells #[.slice a1 m.f.length cap1] 28)).alloc (.cells #[.slice none 0 0] 28)).alloc (.cells #[.slice none 0 0] 28)).heap[w.heap.size + 1 + 1]? = some (.cells #[.slice none 0 0] 28 (0, 0)) := by
    have h1 := heap_alloc_new ((w.alloc (.cells #[.slice a1 m.f.length cap1] 28)).alloc (.cells #[.slice none 0 0] 28)) (.cells #[.slice none 0 0] 28)
    rw [show ((w.alloc (.cells #[.slice a1 m.f.length cap1] 28)).alloc (.cells #[.slice none 0 0] 28)).heap.size = w.heap.size + 1 + 1 by simp] at h1
    exact h1
  have HB0 := Lib.hid hb0
  have G0 := Lib.hid g0
  have G1 := Lib.hid g1
  have G2 := Lib.hid g2
  clear hb0 g0 g1 g2
  go_loopw [4] (fun v4 wr => ∃ (i : Nat) (vm : Value), i ≤ m.f.length ∧ v4 = .int .i64 i ∧ Hid (Grown 35 3 (w.heap.size + 3) wr (fun b w cs s => RSlot L b w (RMsg L b w n) cs s) vm (m.f.take i)) ∧ Hid (wr.heap[w.heap.size]? = some (.cells #[.slice a1 m.f.length cap1] 28 (0, 0))) ∧ Hid (wr.heap[w.heap.size + 1]? = some (.cells #[.slice none 0 0] 28 (0, 0))) ∧ Hid (wr.heap[w.heap.size + 1 + 1]? = some (.cells #[vm] 28 (0, 0))) ∧ Hid (Below w.heap.size w wr)) (fun v4 _ => m.f.length - (intOf v4).toNat)
  case atStart => exact ⟨0, .slice none 0 0, Nat.zero_le _, rfl, Lib.hid (Grown.nil _ _ _ _ _), G0, G1, G2, HB0⟩
  case round =>
    rename World => wA
    clear G0 G1 G2 HB0
    obtain ⟨i, vm, hi, rfl, HG, G0, G1, G2, HB⟩ := hrel
    have m0 : wA.cell? ⟨w.heap.size, 0, none⟩ = some (.slice a1 m.f.length cap1) := cell_of_row wA w.heap.size 0 _ _ (0, 0) G0.out
    have m2 : wA.cell? ⟨w.heap.size + 1 + 1, 0, none⟩ = some vm := cell_of_row wA (w.heap.size + 1 + 1) 0 #[vm] _ (0, 0) G2.out
    have lt0 := lt_blk G0.out
    have lt2 := lt_blk G2.out
    by_cases hlt : i < m.f.length
    · obtain ⟨bx, ox, c0, c1, c2, e1, -, p0', p1', p2', n0, n1, n2, rx⟩ := H4.out.get3 (rslot_three L 0 n) i hlt
      cases e1
      have p0 := (HB.out.cell (block_lt_of_cell p0')).trans p0'
      have p1 := (HB.out.cell (block_lt_of_cell p1')).trans p1'
      have p2 := (HB.out.cell (block_lt_of_cell p2')).trans p2'
      have bl := block_lt_of_cell p0
      clear p0' p1' p2'
      have HT := Lib.hid (List.take_succ_eq_append_getElem hlt)
      have HC := Lib.hid (HI.out wA.drew [c0, c1, c2] m.f[i] ((rx.below HB.out).below (Below.refl _ _).drew))
      have hln : (m.f.take i).length = i := by rw [List.length_take]; omega
      clear rx
      generalize m.f[i] = x at *
      go_upto_region 5 with fail
      have hf2 : wA.frozen? ⟨w.heap.size + 1 + 1, 0, none⟩ = false := by simp [World.frozen?, G2.out]
      go_region_law (first
        | (obtain ⟨ys, hown, hpart⟩ := HG.out.below (BY.out.nx (al1 y1 (.cells #[d0, d1, d2] 35))); (refine step_append_lies _ rfl (.tmp 14) (.tmp 21) 26 rfl (w.heap.size + 3) 35 i3 _ 3 56 Tryz.underlying26 hi3 hz3 hs3 hb3 z3 (by omega) vm (m.f.take i).length ys (by simp [Act.eval, Act.put]) hown ⟨y1.heap.size, 0, none⟩ 1 1 [d0, d1, d2] (by simp [Act.eval, Act.put]) rfl (block_src (heap_alloc_new y1 (.cells #[d0, d1, d2] 35))) (by simp [o0, o1, o2]) (by omega) (by unfold maxLen; omega) (by omega) (by simp; omega) _ rfl ?_); (rintro g cap w9 ho9 hg9 hl9 hlt9);
            (have K9 := grown_step (R := fun b w cs s => RSlot L b w (RMsg L b w n) cs s) HG.out (BY.out) (by have := HB.out.size; omega) RS.out rfl hown hpart ho9 hg9 hl9); (obtain ⟨gn, hne', b9⟩ := K9); (have GN := Lib.hid gn); (have hne := fun (b : Nat) (c : Array Value) => hne' b c 28 (by decide)); (have B9 := Lib.hid (b9 w (by omega) HB.out)); clear gn hne' b9;
            (have X0 := Lib.hid (hne _ _ G0.out)); (have X1 := Lib.hid (hne _ _ G1.out)); (have X2 := Lib.hid (hne _ _ G2.out));
            (have x2 : w9.cell? ⟨w.heap.size + 1 + 1, 0, none⟩ = some vm := cell_of_row w9 (w.heap.size + 1 + 1) 0 #[vm] _ (0, 0) X2.out);
            (have xf2 : w9.frozen? ⟨w.heap.size + 1 + 1, 0, none⟩ = false := (by simp [World.frozen?, X2.out]));
            (have xl := lt_blk X2.out);
            clear hne ho9 hg9 hl9 hown hpart)
        | (go_simp; go_at_call 31; (with_reducible refine HC.out.mono ?_); (rintro e y1 ⟨ds, rfl, rs, b1⟩); (obtain ⟨d0, d1, d2, rfl, o0, o1, o2⟩ := rslot_three L wA.drew.heap.size n _ _ _ rs); (have BY := Lib.hid ((Below.refl wA.heap.size wA).drew.nx b1)); (have RS := Lib.hid rs); (have k2 := (BY.out.cell lt2).trans m2); (have kl := Nat.lt_of_lt_of_le lt2 BY.out.size); clear b1 rs)
        | fail)
      all_goals (go_wp2_with fail; go_roundw)
      all_goals first
      | (simp [intOf]; omega)
      | (have hs9 : ∀ u, (w9.setCell ⟨w.heap.size + 1 + 1, 0, none⟩ u).heap[w.heap.size + 1 + 1]? = some (.cells #[u] 28 (0, 0)) := fun u => by
          have h := heap_setCell_same w9 (w.heap.size + 1 + 1) 0 _ _ u X2.out
          simpa using h
         exact ⟨i + 1, .slice (some ⟨g, 0, none⟩) (i + 1) cap, by omega, by simp, Lib.hid (by rw [HT.out]; have q := GN.out; rw [hln] at q; exact q.set (by simp) _), Lib.hid ((heap_setCell_other w9 _ _ _ (by simp; omega)).trans X0.out), Lib.hid ((heap_setCell_other w9 _ _ _ (by simp)).trans X1.out), Lib.hid (hs9 _), Lib.hid (B9.out.setCell (by simp; omega) _)⟩)
    · obtain rfl : i = m.f.length := by omega
      have HG2 := Lib.hid (show Grown 35 3 (w.heap.size + 3) wA (fun b w cs s => RSlot L b w (RMsg L b w n) cs s) vm m.f by have := HG.out; rwa [List.take_length] at this)
      obtain ⟨av, nv, cv, rfl⟩ : ∃ a n c, vm = .slice a n c := by
        obtain ⟨ys, h1, -⟩ := HG2.out
        rcases h1.2 with ⟨h, -⟩ | ⟨g, cap, cur, h, -⟩
        · exact ⟨_, _, _, h⟩
        · exact ⟨_, _, _, h⟩
      have m1 : wA.cell? ⟨w.heap.size + 1, 0, none⟩ = some (.slice none 0 0) := cell_of_row wA (w.heap.size + 1) 0 _ _ (0, 0) G1.out
      have f1 : wA.frozen? ⟨w.heap.size + 1, 0, none⟩ = false := by simp [World.frozen?, G1.out]
      have lt1 := lt_blk G1.out
      go_wp2_with fail
      have kp : Keeps (w.heap.size + 3) wA (wA.setCell ⟨w.heap.size + 1, 0, none⟩ (.slice av nv cv)) := (Keeps.refl _ _).set (by simp) _
      have HR := (HG2.out.set (p := ⟨w.heap.size + 1, 0, none⟩) (by simp) (.slice av nv cv)).row (L := L) (rslot_keepB L n) hlen
      exact bodyPost_ret (v := .agg #[.slice av nv cv]) (results_cell_mid rfl _ _ (w.heap.size + 1) 0 [_] _ rfl (World.rangeAt_setCells_same wA (w.heap.size + 1) 0 [_] fun j hj => ⟨by match j, hj with
        | 0, _ => rw [m1]; rfl, by match j, hj with
        | 0, _ => exact f1⟩) Tryz.underlying28 rfl (by kernel_rfl)) rfl ⟨_, rfl, HG2.out.set (p := ⟨w.heap.size + 1, 0, none⟩) (by simp) (.slice av nv cv), ⟨_, rfl, HR.gen hlen (by omega) (Keeps.refl _ _) fun _ _ _ h => rslot_keepB L n _ _ _ _ _ _ (by omega) (Keeps.refl _ _) h⟩, HB.out.setCell (by simp) _, by have := lt_blk G2.out; simp [World.setCell]; omega⟩
/-- truffleref09.Own, one level. -/
theorem own_step9 (L n : Nat) (hL : L ≤ 1048576)
    (ih : ∀ w cs s, RSlot L 0 w (RMsg L 0 w n) cs s → Calls Tryz.prog 31 #[.agg cs.toArray] w fun e w' => ∃ ds, e = .returned (.agg ds.toArray) ∧ RSlot L w.heap.size w' (RMsg L w.heap.size w' n) ds s ∧ Below w.heap.size w w')
    (w : World) (cs : List Value) (m : Msg) (hx : RMsg L 0 w (n + 1) cs m) :
    Calls Tryz.prog 13 #[.agg cs.toArray] w fun e w' => ∃ ds, e = .returned (.agg ds.toArray) ∧ RMsg L w.heap.size w' (n + 1) ds m ∧ Below w.heap.size w w' := by
  refine (own_step9G L n hL ih w cs m hx).mono ?_
  rintro e w' ⟨v, rfl, -, hr, hb, -⟩
  exact ⟨[v], rfl, hr, hb⟩
end
end Go.Proofs.YthikfifoomfjgaaGreat
namespace Go.Proofs.YthikfifoomfjgaaGreat
open Go.RowKit Go.Tr
set_option maxRecDepth 100000
set_option linter.unusedVariables false
set_option linter.unusedSimpArgs false
theorem blk3 (w : World) (c0 c1 c2 d0 d1 d2 : Value) (t : TypeId) : ((((w.alloc (.cells #[c0, c1, c2] t)).setCell ⟨w.heap.size, 0, none⟩ d0).setCell ⟨w.heap.size, 1, none⟩ d1).setCell ⟨w.heap.size, 2, none⟩ d2).heap[w.heap.size]? = some (.cells #[d0, d1, d2] t (0, 0)) := by
  have h0 := heap_alloc_new w (.cells #[c0, c1, c2] t)
  have h1 := heap_setCell_same _ w.heap.size 0 _ _ d0 h0
  have h2 := heap_setCell_same _ w.heap.size 1 _ _ d1 h1
  have h3 := heap_setCell_same _ w.heap.size 2 _ _ d2 h2
  simpa using h3
theorem rmsg_keepB (L n : Nat) : ∀ B B' w w' cs (x : Msg), B' ≤ B → Keeps B w w' → RMsg L B w n cs x → RMsg L B' w' n cs x := fun _ _ _ _ _ _ hB hw h => RMsg.keep hB hw n n (Nat.le_refl _) h
section
attribute [local go_sem] run_store
set_option maxHeartbeats 4000000 in
theorem each_step9 (L n : Nat) (hL : L ≤ 1048576)
    (ih : ∀ w cs s, RMsg L 0 w n cs s → Calls Tryz.prog 13 #[.agg cs.toArray] w fun e w' => ∃ ds, e = .returned (.agg ds.toArray) ∧ RMsg L w.heap.size w' n ds s ∧ Below w.heap.size w w')
    (w : World) (v : Value) (l : List Val) (hx : RowOf L 0 w 3 (RVal L 0 w (RMsg L 0 w n)) v l) :
    Calls Tryz.prog 61 #[v] w fun e w' => ∃ v', e = .returned v' ∧ RowOf L w.heap.size w' 3 (RVal L w.heap.size w' (RMsg L w.heap.size w' n)) v' l ∧ Below w.heap.size w w' := by
  have H4 := Lib.hid hx
  have hlen := hx.len
  obtain ⟨a1, cap1, rfl, q0, q1, q2, -, -⟩ := hx
  unfold maxLen at q2
  have HI := Lib.hid ih
  clear ih
  obtain ⟨i3, hi3, hz3, hs3, hb3⟩ := info_parts (P := Tryz.prog) (e := 39) (z := .agg #[.int .i64 0, .string "".toUTF8, .slice none 0 0]) (size := 3) (bytes := 48) (by kernel_rfl)
  have z3 : (Value.agg #[.int .i64 0, .string "".toUTF8, .slice none 0 0]).cells.size = 3 := rfl
  obtain ⟨i1, hi1, hz1, hs1, hb1⟩ := info_parts (P := Tryz.prog) (e := 28) (z := .agg #[.slice none 0 0]) (size := 1) (bytes := 24) (by kernel_rfl)
  have z1 : (Value.agg #[.slice none 0 0]).cells.size = 1 := rfl
  go_enter Tryz.func61, Tryz.ntmps61
  go_wp2_with fail
  go_loopw [3, 4] (fun o i wr => ∃ k : Nat, k ≤ l.length ∧ i = .int .i64 k ∧ Hid (Grown 39 3 w.heap.size wr (fun b w cs s => RVal L b w (RMsg L b w n) cs s) o (l.take k)) ∧ Hid (Below w.heap.size w wr)) (fun _ i _ => l.length - (intOf i).toNat)
  case atStart => exact ⟨0, Nat.zero_le _, rfl, Lib.hid (Grown.nil _ _ _ _ _), Lib.hid (Below.refl _ _)⟩
  case round =>
    rename World => wA
    obtain ⟨i, hi, rfl, HG, HB⟩ := hrel
    by_cases hlt : i < l.length
    · obtain ⟨bx, ox, c0, c1, c2, e1, -, p0', p1', p2', n0, n1, n2, rx⟩ := H4.out.get3 (rval_three L 0 n) i hlt
      cases e1
      have p0 := (HB.out.cell (block_lt_of_cell p0')).trans p0'
      have p1 := (HB.out.cell (block_lt_of_cell p1')).trans p1'
      have p2 := (HB.out.cell (block_lt_of_cell p2')).trans p2'
      have bl := block_lt_of_cell p0
      clear p0' p1' p2'
      have HT := Lib.hid (List.take_succ_eq_append_getElem hlt)
      have hln : (l.take i).length = i := by rw [List.length_take]; omega
      obtain ⟨c, e1, y1, y2, y3, r4⟩ := (rx.below HB.out)
      cases e1
      clear rx
      generalize l[i] = x at *
      have HR := Lib.hid r4
      obtain ⟨a4, cap4, rfl, t0, t1, t2, -, -⟩ := r4
      unfold maxLen at t2
      go_upto_region 5 with fail
      go_region
      go_wp2_with fail
      have hx0 : (wA.alloc (.cells #[.int .i64 x.n, .string x.s, .slice none 0 0] 39)).drew.heap[wA.heap.size]? = some (.cells #[.int .i64 x.n, .string x.s, .slice none 0 0] 39 (0, 0)) := heap_alloc_new wA _
      have hb0 : Below wA.heap.size wA (wA.alloc (.cells #[.int .i64 x.n, .string x.s, .slice none 0 0] 39)).drew := (al1 _ _).drew
      have HX0 := Lib.hid hx0
      have HB0 := Lib.hid hb0
      clear hx0 hb0
      generalize (wA.alloc (.cells #[.int .i64 x.n, .string x.s, .slice none 0 0] 39)).drew = w0 at HX0 HB0 ⊢
      go_loopw [6] (fun j wr => ∃ (q : Nat) (vm : Value), q ≤ x.m.length ∧ j = .int .i64 q ∧ Hid (Grown 28 1 (wA.heap.size + 1) wr (fun b w cs s => RMsg L b w n cs s) vm (x.m.take q)) ∧ Hid (wr.heap[wA.heap.size]? = some (.cells #[.int .i64 x.n, .string x.s, vm] 39 (0, 0))) ∧ Hid (Below wA.heap.size wA wr)) (fun j _ => x.m.length - (intOf j).toNat)
      case atStart => exact ⟨0, .slice none 0 0, Nat.zero_le _, rfl, Lib.hid (Grown.nil _ _ _ _ _), HX0, HB0⟩
      case round =>
        rename World => wB
        clear HX0 HB0
        obtain ⟨q, vm, hq, rfl, HGM, HX, HBB⟩ := hrel
        have p2b := (HBB.out.cell (block_lt_of_cell p2)).trans p2
        have blb := block_lt_of_cell p2b
        have ltk := lt_blk HX.out
        have m2 : wB.cell? ⟨wA.heap.size, 2, none⟩ = some vm := cell_of_row wB wA.heap.size 2 _ _ (0, 0) HX.out
        have f2 : wB.frozen? ⟨wA.heap.size, 2, none⟩ = false := by simp [World.frozen?, HX.out]
        by_cases hlq : q < x.m.length
        · obtain ⟨b3, o3, f0, e3, -, s0', u0, rz⟩ := (HR.out.imp (R' := RMsg L 0 wB n) HBB.out fun _ _ _ h => RMsg.below HBB.out n h).get1 (rmsg_one L 0 n) q hlq
          cases e3
          have s0 := s0'
          have bl3 := block_lt_of_cell s0
          have HTM := Lib.hid (List.take_succ_eq_append_getElem hlq)
          have hlnm : (x.m.take q).length = q := by rw [List.length_take]; omega
          have HC := Lib.hid (HI.out wB.drew [f0] x.m[q] (RMsg.below (Below.refl _ _).drew n rz))
          clear rz s0'
          generalize x.m[q] = z at *
          go_upto_region 9 with fail
          go_region_law (first
            | (obtain ⟨ys, hown, hpart⟩ := HGM.out.below (BY.out.nx (al1 y1 (.cells #[d0] 28))); (refine step_append_lies _ rfl (.tmp 35) (.tmp 45) 37 rfl (wA.heap.size + 1) 28 i1 _ 1 24 Tryz.underlying37 hi1 hz1 hs1 hb1 z1 (by omega) vm (x.m.take q).length ys (by simp [Act.eval, Act.put]) hown ⟨y1.heap.size, 0, none⟩ 1 1 [d0] (by simp [Act.eval, Act.put]) rfl (block_src (heap_alloc_new y1 (.cells #[d0] 28))) (by simp [o0]) (by omega) (by unfold maxLen; omega) (by omega) (by simp; omega) _ rfl ?_); (rintro g cap w9 ho9 hg9 hl9 hlt9);
                (have K9 := grown_step (R := fun b w cs s => RMsg L b w n cs s) HGM.out (BY.out) (by omega) RS.out rfl hown hpart ho9 hg9 hl9); (obtain ⟨gn, hne', b9⟩ := K9); (have GN := Lib.hid gn); (have X2 := Lib.hid (hne' _ _ 39 (by decide) HX.out)); (have B9 := Lib.hid (b9 wA (by omega) HBB.out)); clear gn hne' b9;
                (have x2 : w9.cell? ⟨wA.heap.size, 2, none⟩ = some vm := cell_of_row w9 wA.heap.size 2 _ _ (0, 0) X2.out);
                (have xf2 : w9.frozen? ⟨wA.heap.size, 2, none⟩ = false := (by simp [World.frozen?, X2.out]));
                (have xl := lt_blk X2.out);
                clear ho9 hg9 hl9 hown hpart)
            | (go_simp; go_at_call 13; (with_reducible refine HC.out.mono ?_); (rintro e y1 ⟨ds, rfl, rs, b1⟩); (obtain ⟨d0, rfl, o0⟩ := rmsg_one L wB.drew.heap.size n _ _ _ rs); (have BY := Lib.hid ((Below.refl wB.heap.size wB).drew.nx b1)); (have RS := Lib.hid rs); (have k2 := (BY.out.cell ltk).trans m2); (have kl := Nat.lt_of_lt_of_le ltk BY.out.size); clear b1 rs)
            | fail)
          all_goals (go_wp2_with fail; go_roundw)
          all_goals first
          | (simp [intOf]; omega)
          | (have hs9 : ∀ u, (w9.setCell ⟨wA.heap.size, 2, none⟩ u).heap[wA.heap.size]? = some (.cells #[.int .i64 x.n, .string x.s, u] 39 (0, 0)) := fun u => by
               have h := heap_setCell_same w9 wA.heap.size 2 _ _ u X2.out
               simpa using h
             exact ⟨q + 1, .slice (some ⟨g, 0, none⟩) (q + 1) cap, by omega, by simp, Lib.hid (by rw [HTM.out]; have q := GN.out; rw [hlnm] at q; exact q.set (by simp) _), Lib.hid (hs9 _), Lib.hid (B9.out.setCell (by simp) _)⟩)
        · obtain rfl : q = x.m.length := by omega
          have HGM2 := Lib.hid (show Grown 28 1 (wA.heap.size + 1) wB (fun b w cs s => RMsg L b w n cs s) vm x.m by have := HGM.out; rwa [List.take_length] at this)
          have hrow := HGM2.out.row (L := L) (rmsg_keepB L n) t0
          have RV := Lib.hid (show RVal L wA.heap.size wB (RMsg L wA.heap.size wB n) [.int .i64 x.n, .string x.s, vm] x from ⟨vm, rfl, y1, y2, y3, hrow.gen t0 (by omega) (Keeps.refl _ _) fun _ _ _ h => RMsg.keep (by omega) (Keeps.refl _ _) n n (Nat.le_refl _) h⟩)
          obtain ⟨av, cv, rfl, -⟩ := hrow
          have m0 : wB.cell? ⟨wA.heap.size, 0, none⟩ = some (.int .i64 x.n) := cell_of_row wB wA.heap.size 0 _ _ (0, 0) HX.out
          have m1 : wB.cell? ⟨wA.heap.size, 1, none⟩ = some (.string x.s) := cell_of_row wB wA.heap.size 1 _ _ (0, 0) HX.out
          obtain ⟨ys, hown, hpart⟩ := HG.out.below (HBB.out.nx (al1 wB (.cells #[.int .i64 x.n, .string x.s, .slice av x.m.length cv] 39)))
          have HO := Lib.hid hown
          have HP := Lib.hid hpart
          clear hown hpart
          have hsB := HBB.out.size
          have hsA := HB.out.size
          go_wp2_with (at_builtin; (refine wpList_append_lies _ rfl _ _ 33 rfl w.heap.size 39 i3 _ 3 48 Tryz.underlying33 hi3 hz3 hs3 hb3 z3 (by omega) u3 (l.take i).length ys rfl HO.out ⟨wB.heap.size, 0, none⟩ 1 1 [.int .i64 x.n, .string x.s, .slice av x.m.length cv] rfl rfl (block_src (heap_alloc_new wB _)) (by simp [Value.oneCell']) (by omega) (by unfold maxLen; omega) (by omega) (by simp; omega) _ rfl ?_); rintro g cap w9 ho9 hg9 hl9 hlt9; (have K9 := grown_step (R := fun b w cs s => RVal L b w (RMsg L b w n) cs s) HG.out HBB.out hsA RV.out rfl HO.out HP.out ho9 hg9 hl9); (obtain ⟨gn, hne', b9⟩ := K9); (have GN := Lib.hid gn); (have B9 := Lib.hid (b9 w (Nat.le_refl _) HB.out)); clear gn hne' b9 ho9 hg9 hl9)
          refine ⟨⟨i + 1, by omega, by simp, Lib.hid (by rw [HT.out]; have q := GN.out; rw [hln] at q; exact q), B9⟩, ?_⟩
          simp [intOf]; omega
    · obtain rfl : i = l.length := by omega
      have HG2 := Lib.hid (show Grown 39 3 w.heap.size wA (fun b w cs s => RVal L b w (RMsg L b w n) cs s) u3 l by have := HG.out; rwa [List.take_length] at this)
      go_wp2_with fail
      exact ⟨rfl, _, results_tmp (t := 2) rfl _ _ _, ⟨_, rfl, HG2.out.row (rval_keepB L n) hlen, HB.out⟩⟩
end
end Go.Proofs.YthikfifoomfjgaaGreat
namespace Go.Proofs.YthikfifoomfjgaaGreat
open Go.RowKit Go.Tr
set_option maxRecDepth 100000
set_option linter.unusedVariables false
set_option linter.unusedSimpArgs false
section
attribute [local go_sem] run_store
set_option maxHeartbeats 4000000 in
theorem slot_step9 (L n : Nat) (hL : L ≤ 1048576)
    (ih : ∀ w cs s, RMsg L 0 w n cs s → Calls Tryz.prog 13 #[.agg cs.toArray] w fun e w' => ∃ ds, e = .returned (.agg ds.toArray) ∧ RMsg L w.heap.size w' n ds s ∧ Below w.heap.size w w')
    (w : World) (cs : List Value) (x : Slot) (hx : RSlot L 0 w (RMsg L 0 w n) cs x) :
    Calls Tryz.prog 31 #[.agg cs.toArray] w fun e w' => ∃ ds, e = .returned (.agg ds.toArray) ∧ RSlot L w.heap.size w' (RMsg L w.heap.size w' n) ds x ∧ Below w.heap.size w w' := by
  obtain ⟨c, d, rfl, h1, h2, h3, h4⟩ := hx
  have HK := Lib.hid fun w' (hb : Below w.heap.size w w') => each_step9 L n hL ih w' c x.k (h3.imp hb fun _ _ _ h => h.below hb)
  have HV := Lib.hid fun w' (hb : Below w.heap.size w w') => each_step9 L n hL ih w' d x.v (h4.imp hb fun _ _ _ h => h.below hb)
  have hlen := h3.len
  have hlen2 := h4.len
  obtain ⟨a1, cap1, rfl, -⟩ := h3
  obtain ⟨a2, cap2, rfl, -⟩ := h4
  clear ih
  have H1 := Lib.hid (fun w' (hb : Below w.heap.size w w') (hz : w.heap.size + 2 ≤ w'.heap.size) => (HK.out w' hb).mono (R' := fun e w2 => ∃ a3 cap3, e = .returned (.slice a3 x.k.length cap3) ∧ RowOf L (w.heap.size + 2) w2 3 (RVal L (w.heap.size + 2) w2 (RMsg L (w.heap.size + 2) w2 n)) (.slice a3 x.k.length cap3) x.k ∧ Below w'.heap.size w' w2) (by
    rintro e w2 ⟨v', rfl, hv, b'⟩
    have hr := hv.gen (L' := L) (B' := w.heap.size + 2) (R' := RVal L (w.heap.size + 2) w2 (RMsg L (w.heap.size + 2) w2 n)) hlen hz (Keeps.refl _ _) fun _ _ _ h => h.keep hz (Nat.le_refl _) (Keeps.refl _ _)
    have HR := Lib.hid hr
    obtain ⟨a3, cap3, rfl, -⟩ := hr
    exact ⟨_, _, rfl, HR.out, b'⟩))
  have H2 := Lib.hid (fun w' (hb : Below w.heap.size w w') (hz : w.heap.size + 2 ≤ w'.heap.size) => (HV.out w' hb).mono (R' := fun e w2 => ∃ a3 cap3, e = .returned (.slice a3 x.v.length cap3) ∧ RowOf L (w.heap.size + 2) w2 3 (RVal L (w.heap.size + 2) w2 (RMsg L (w.heap.size + 2) w2 n)) (.slice a3 x.v.length cap3) x.v ∧ Below w'.heap.size w' w2) (by
    rintro e w2 ⟨v', rfl, hv, b'⟩
    have hr := hv.gen (L' := L) (B' := w.heap.size + 2) (R' := RVal L (w.heap.size + 2) w2 (RMsg L (w.heap.size + 2) w2 n)) hlen2 hz (Keeps.refl _ _) fun _ _ _ h => h.keep hz (Nat.le_refl _) (Keeps.refl _ _)
    have HR := Lib.hid hr
    obtain ⟨a3, cap3, rfl, -⟩ := hr
    exact ⟨_, _, rfl, HR.out, b'⟩))
  clear HK HV
  go_enter Tryz.func31, Tryz.ntmps31
  go_upto_region 1 with fail
  have BX := Lib.hid (Bx.new w (.int .i64 x.no) (.slice a1 x.k.length cap1) (.slice a2 x.v.length cap2) (.int .i64 0) (.slice none 0 0) (.slice none 0 0) 35 35)
  go_region_with (first
      | (go_at_call 61; (with_reducible refine (H1.out _ ?_ ?_).mono ?_); exact (al2 _ _ _).drew; (simp); rintro e w1 ⟨a3, cap3, rfl, r1, b1⟩;
          (have R1 := Lib.hid r1); clear r1;
          (have B1 := Lib.hid ((al2 w (.cells #[.int .i64 x.no, .slice a1 x.k.length cap1, .slice a2 x.v.length cap2] 35) (.cells #[.int .i64 0, .slice none 0 0, .slice none 0 0] 35)).drew.nx b1));
          (have BX1 := Lib.hid (BX.out.below b1)); (obtain ⟨s1, m0, m1, m2, f0, q0, q1, q2, f1⟩ := BX1.out); clear b1 BX)
      | (go_at_call 61; (with_reducible refine (H2.out w1 ?_ ?_).mono ?_); exact B1.out; exact s1; rintro e w2 ⟨a4, cap4, rfl, r2, b2⟩;
          (have R2 := Lib.hid r2); clear r2;
          (have R1' := Lib.hid (R1.out.gen hlen (Nat.le_refl _) (.of_below b2) fun _ _ _ h => h.below b2)); clear R1; (have R1 := R1'); clear R1';
          (have B2 := Lib.hid (B1.out.nx b2));
          (have BX2 := Lib.hid (BX1.out.below b2)); clear s1 m0 m1 m2 f0 q0 q1 q2 f1 BX1; (obtain ⟨s1, m0, m1, m2, f0, q0, q1, q2, f1⟩ := BX2.out); (obtain ⟨x0, z0⟩ := Option.isSome_iff_exists.1 q0); (obtain ⟨x1, z1⟩ := Option.isSome_iff_exists.1 q1); (obtain ⟨x2, z2⟩ := Option.isSome_iff_exists.1 q2); clear b2 q0 q1 q2)
      | fail)
  all_goals (
    have B3 := ((B2.out.setCell (p := ⟨w.heap.size + 1, 0, none⟩) (by simp) (.int .i64 x.no)).setCell (p := ⟨w.heap.size + 1, 1, none⟩) (by simp) (.slice a3 x.k.length cap3)).setCell (p := ⟨w.heap.size + 1, 2, none⟩) (by simp) (.slice a4 x.v.length cap4)
    have kp : Keeps (w.heap.size + 2) w2 (((w2.setCell ⟨w.heap.size + 1, 0, none⟩ (Value.int IntKind.i64 x.no)).setCell ⟨w.heap.size + 1, 1, none⟩ (Value.slice a3 x.k.length cap3)).setCell ⟨w.heap.size + 1, 2, none⟩ (Value.slice a4 x.v.length cap4)) :=
      (((Keeps.refl _ _).set (by simp) _).set (by simp) _).set (by simp) _
    have HKP := Lib.hid kp
    have HB3 := Lib.hid B3
    clear kp B3
    go_wp2_with fail
    exact bodyPost_ret (v := .agg #[.int .i64 x.no, .slice a3 x.k.length cap3, .slice a4 x.v.length cap4]) (results_cell_mid rfl _ _ (w.heap.size + 1) 0 [_, _, _] _ rfl (rangeAt_set3 _ _ 0 _ _ _ BX2.out.there) Tryz.underlying35 rfl (by kernel_rfl)) rfl
      ⟨[_, _, _], rfl, ⟨_, _, rfl, h1, h2, R1.out.gen hlen (by omega) HKP.out fun _ _ _ h => h.keep (by omega) (Nat.le_refl _) HKP.out, R2.out.gen hlen2 (by omega) HKP.out fun _ _ _ h => h.keep (by omega) (Nat.le_refl _) HKP.out⟩,
      HB3.out⟩)
/-- The reference's Own. -/
theorem ref_own (L : Nat) (hL : L ≤ 1048576) : ∀ (n : Nat) (w : World) (cs : List Value) (m : Msg), RMsg L 0 w n cs m →
    Calls Tryz.prog 13 #[.agg cs.toArray] w fun e w' => ∃ ds, e = .returned (.agg ds.toArray) ∧ RMsg L w.heap.size w' n ds m ∧ Below w.heap.size w w'
  | 0, _, _, _, h => h.elim
  | n + 1, w, cs, m, h => own_step9 L n hL (slot_step9 L n hL (ref_own L hL n)) w cs m h
/-- The reference's Slot. -/
theorem ref_slot (L n : Nat) (hL : L ≤ 1048576) (w : World) (cs : List Value) (x : Slot) (hx : RSlot L 0 w (RMsg L 0 w n) cs x) :
    Calls Tryz.prog 31 #[.agg cs.toArray] w fun e w' => ∃ ds, e = .returned (.agg ds.toArray) ∧ RSlot L w.heap.size w' (RMsg L w.heap.size w' n) ds x ∧ Below w.heap.size w w' :=
  slot_step9 L n hL (ref_own L hL n) w cs x hx
/-- The reference's Each. -/
theorem ref_each (L n : Nat) (hL : L ≤ 1048576) (w : World) (v : Value) (l : List Val) (hx : RowOf L 0 w 3 (RVal L 0 w (RMsg L 0 w n)) v l) :
    Calls Tryz.prog 61 #[v] w fun e w' => ∃ v', e = .returned v' ∧ RowOf L w.heap.size w' 3 (RVal L w.heap.size w' (RMsg L w.heap.size w' n)) v' l ∧ Below w.heap.size w w' :=
  each_step9 L n hL (ref_own L hL n) w v l hx
/-- truffleref09.Own, with its row that grows. -/
theorem ref_ownG (L n : Nat) (hL : L ≤ 1048576) (w : World) (cs : List Value) (m : Msg) (hx : RMsg L 0 w (n + 1) cs m) :
    Calls Tryz.prog 13 #[.agg cs.toArray] w fun e w' => ∃ v, e = .returned (.agg #[v]) ∧ Grown 35 3 (w.heap.size + 3) w' (fun b w cs s => RSlot L b w (RMsg L b w n) cs s) v m.f ∧ RMsg L w.heap.size w' (n + 1) [v] m ∧ Below w.heap.size w w' ∧ w.heap.size + 3 ≤ w'.heap.size :=
  own_step9G L n hL (slot_step9 L n hL (ref_own L hL n)) w cs m hx
end
end Go.Proofs.YthikfifoomfjgaaGreat
