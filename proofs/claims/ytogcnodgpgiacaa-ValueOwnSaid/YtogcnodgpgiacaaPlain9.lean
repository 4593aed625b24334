/- Plain laws on trees: sizes, depths, slots that are set. -/
import Derived.Test.YtogcnodgpgiacaaAwake9
import Derived.Test.YtogcnodgpgiacaaOpen
import Derived.Deep.RegionHeld3
namespace Go.Tr
open Go.Proofs.Ytogcnodgpgiacaa
set_option linter.unusedVariables false
set_option linter.unusedSimpArgs false
def slotSize (s : Slot) : Nat := (Slot.both s).length + sizes (subsOf (Slot.both s))
def slotDeep (s : Slot) : Nat := most (subsOf (Slot.both s))
theorem vals_mk (l : List Slot) : (Msg.mk l).vals = l.flatMap Slot.both := rfl
theorem size_mk (l : List Slot) : (Msg.mk l).size = (l.map slotSize).sum := by
  rw [size_sizes, ← subsOf_vals, vals_mk]
  induction l with
  | nil => rfl
  | cons s l ih =>
    rw [List.flatMap_cons, subsOf_app, sizes_app, List.length_append, List.map_cons, List.sum_cons, ← ih]
    unfold slotSize; omega
theorem deep_mk (l : List Slot) : (Msg.mk l).deep = (l.map slotDeep).foldl max 0 + 1 := by
  rw [Msg.deep_eq, ← subsOf_vals, vals_mk]
  show most _ + 1 = _
  congr 1
  induction l with
  | nil => rfl
  | cons s l ih =>
    rw [List.flatMap_cons, subsOf_app, most_app, List.map_cons, List.foldl_cons, foldl_max, ih]
    unfold slotDeep; omega
theorem sum_ins (l : List Nat) (i x : Nat) : (l.take i ++ x :: l.drop i).sum = l.sum + x := by
  have h : l.sum = (l.take i).sum + (l.drop i).sum := by rw [← List.sum_append, List.take_append_drop]
  rw [h]; simp; omega
theorem max_ins (l : List Nat) (i x : Nat) : (l.take i ++ x :: l.drop i).foldl max 0 = max (l.foldl max 0) x := by
  have h : l.foldl max 0 = max ((l.take i).foldl max 0) ((l.drop i).foldl max 0) := by rw [← foldl_max_app, List.take_append_drop]
  rw [h, foldl_max_app, List.foldl_cons, foldl_max (l.drop i) (max 0 x)]; omega
theorem map_ins {β : Type} (f : Slot → β) (r : List Slot) (i : Nat) (s : Slot) : (r.take i ++ s :: r.drop i).map f = (r.map f).take i ++ f s :: (r.map f).drop i := by simp [List.map_take, List.map_drop]
theorem size_set (m : Msg) (s : Slot) (h : s.v ≠ []) : (setSlot m s).size = (Msg.mk (without m s.no)).size + (Msg.mk [s]).size := by
  unfold setSlot; rw [if_neg h]
  unfold placed
  rw [size_mk, size_mk, size_mk, map_ins, sum_ins]; simp
theorem deep_set (m : Msg) (s : Slot) (h : s.v ≠ []) : (setSlot m s).deep = max (Msg.mk (without m s.no)).deep (Msg.mk [s]).deep := by
  unfold setSlot; rw [if_neg h]
  unfold placed
  rw [deep_mk, deep_mk, deep_mk, map_ins, max_ins]; simp
theorem sum_filter_le (l : List Slot) (p : Slot → Bool) : ((l.filter p).map slotSize).sum ≤ (l.map slotSize).sum := by
  induction l with
  | nil => simp
  | cons s l ih =>
    rw [List.filter_cons]
    split <;> simp <;> omega
theorem size_without (m : Msg) (no : Int) : (Msg.mk (without m no)).size ≤ m.size := by
  obtain ⟨l⟩ := m
  rw [size_mk, size_mk]
  exact sum_filter_le l _
theorem size_le_weight {m : Msg} {d : Int} (h : Light d m) : m.size ≤ 3000 ∧ m.f.length ≤ 3000 ∧ (m.deep : Int) ≤ d := by
  have := weight_size m
  have := weight_f m
  exact ⟨by have := h.1; omega, by have := h.1; omega, h.2⟩
theorem max_filter_le (l : List Slot) (p : Slot → Bool) : ((l.filter p).map slotDeep).foldl max 0 ≤ (l.map slotDeep).foldl max 0 := by
  induction l with
  | nil => simp
  | cons s l ih =>
    rw [List.filter_cons]
    split
    · rw [List.map_cons, List.map_cons, List.foldl_cons, List.foldl_cons, foldl_max ((l.filter p).map slotDeep) (max 0 (slotDeep s)), foldl_max (l.map slotDeep) (max 0 (slotDeep s))]; omega
    · rw [List.map_cons, List.foldl_cons, foldl_max (l.map slotDeep) (max 0 (slotDeep s))]; omega
theorem deep_without (m : Msg) (no : Int) : (Msg.mk (without m no)).deep ≤ m.deep := by
  obtain ⟨l⟩ := m
  rw [deep_mk, deep_mk]
  have := max_filter_le l (fun x => !isNo no x)
  show ((l.filter _).map _).foldl max 0 + 1 ≤ _
  omega
/-- A slot that is light alone. -/
theorem RSlot.shrink {L L' B n : Nat} {w : World} {cs : List Value} {s : Slot} (h : RSlot L B w (RMsg L B w n) cs s) (hw : (Msg.mk [s]).weight ≤ L') : RSlot L' B w (RMsg L' B w n) cs s := by
  have hs : s ∈ (Msg.mk [s]).f := by simp [Msg.f]
  refine h.gen ?_ (Nat.le_refl _) (Keeps.refl _ _) fun cs x hx h => RMsg.shrink n h ?_
  · obtain ⟨h1, h2, h3⟩ := weight_rows (Msg.mk [s]) hs
    exact ⟨by omega, by omega, fun x hx => by have := h3 x hx; omega⟩
  · obtain ⟨y, hy, hx⟩ := hx
    have := weight_sub (m := Msg.mk [s]) (x := x) (List.mem_flatMap.2 ⟨y, List.mem_flatMap.2 ⟨s, hs, List.mem_append.2 hy⟩, hx⟩)
    omega
/-- A slot's cells in a block, as a message of it alone. -/
theorem msg_one {L B n b : Nat} {w : World} {c0 c1 c2 : Value} {s : Slot} {t : TypeId} (hL : 1 ≤ L) (hb : B ≤ b) (h : w.heap[b]? = some (.cells #[c0, c1, c2] t (0, 0))) (hs : RSlot L B w (RMsg L B w n) [c0, c1, c2] s) :
    RMsg L B w (n + 1) [.slice (some ⟨b, 0, none⟩) 1 1] (.mk [s]) := by
  refine ⟨_, rfl, some ⟨b, 0, none⟩, 1, rfl, by simpa [Msg.f] using hL, by simp [Msg.f], by unfold maxLen; omega, by simp, fun _ => ⟨b, 0, rfl, hb, fun i hi => ?_⟩⟩
  have hi0 : i = 0 := by simp [Msg.f] at hi; omega
  subst hi0
  refine ⟨[c0, c1, c2], rfl, fun j u hu => ?_, hs⟩
  rw [cell_of_row w b (0 + 0 * 3 + j) _ _ _ h]
  simpa using hu
/-- Messages' cells in a block, as a row. -/
theorem msgs_row {L B n b : Nat} {w : World} {cs : List Value} {ms : List Msg} {t : TypeId} (hL : ms.length ≤ L) (hm : ms.length ≤ maxLen) (hb : B ≤ b) (h : w.heap[b]? = some (.cells cs.toArray t (0, 0))) (hl : cs.length = ms.length)
    (hs : ∀ i (h1 : i < cs.length) (h2 : i < ms.length), RMsg L B w n [cs[i]] ms[i]) : RowOf L B w 1 (RMsg L B w n) (.slice (some ⟨b, 0, none⟩) ms.length ms.length) ms := by
  refine ⟨_, _, rfl, hL, Nat.le_refl _, hm, by simp, fun _ => ⟨b, 0, rfl, hb, fun i hi => ?_⟩⟩
  refine ⟨[cs[i]'(by omega)], rfl, fun j u hu => ?_, hs i (by omega) hi⟩
  have hj : j = 0 := by have := (List.getElem?_eq_some_iff.1 hu).1; simp at this; omega
  subst hj
  rw [cell_of_row w b (0 + i * 1 + 0) _ _ _ h]
  simp at hu ⊢
  rw [← hu]
  simp [List.getElem?_eq_getElem (show i < cs.length by omega)]
open Go.RowKit in
theorem few_args {L n : Nat} {w w1 : World} {v0 c0 c1 c2 : Value} {m : Msg} {s : Slot} {t1 t2 : TypeId} (hb : Below w.heap.size w w1) (h0 : RMsg L 0 w (n + 1) [v0] m) (h1 : RSlot L 0 w (RMsg L 0 w n) [c0, c1, c2] s) (hL : 2 ≤ L) :
    RowOf L 0 ((w1.alloc (.cells #[c0, c1, c2] t1)).alloc (.cells #[v0, .slice (some ⟨w1.heap.size, 0, none⟩) 1 1] t2)) 1 (RMsg L 0 ((w1.alloc (.cells #[c0, c1, c2] t1)).alloc (.cells #[v0, .slice (some ⟨w1.heap.size, 0, none⟩) 1 1] t2)) (n + 1))
      (.slice (some ⟨w1.heap.size + 1, 0, none⟩) 2 2) [m, .mk [s]] := by
  have hz : (w1.alloc (.cells #[c0, c1, c2] t1)).heap.size = w1.heap.size + 1 := by simp
  have hA : Below w.heap.size w ((w1.alloc (.cells #[c0, c1, c2] t1)).alloc (.cells #[v0, .slice (some ⟨w1.heap.size, 0, none⟩) 1 1] t2)) := hb.nx ((al1 _ _).nx (al1 _ _))
  have hB := al1 (w1.alloc (.cells #[c0, c1, c2] t1)) (.cells #[v0, .slice (some ⟨w1.heap.size, 0, none⟩) 1 1] t2)
  have hnew := heap_alloc_new (w1.alloc (.cells #[c0, c1, c2] t1)) (.cells #[v0, .slice (some ⟨w1.heap.size, 0, none⟩) 1 1] t2)
  rw [hz] at hnew
  refine msgs_row (b := w1.heap.size + 1) (cs := [v0, .slice (some ⟨w1.heap.size, 0, none⟩) 1 1]) (ms := [m, .mk [s]]) (t := t2) hL (by show 2 ≤ maxLen; unfold maxLen; omega) (Nat.zero_le _) hnew rfl ?_
  intro i h1' h2'
  match i, h1' with
  | 0, _ => exact RMsg.below hA (n + 1) h0
  | 1, _ => exact msg_one (t := t1) (by omega) (Nat.zero_le _) ((hB.block w1.heap.size (by simp)).trans (heap_alloc_new w1 _)) (h1.below hA)
theorem rmsg_slice {L B n : Nat} {w : World} {v : Value} {m : Msg} (h : RMsg L B w (n + 1) [v] m) : ∃ a cap, v = .slice a m.f.length cap := by
  obtain ⟨c, e, r⟩ := h
  cases e
  obtain ⟨a, cap, rfl, -⟩ := r
  exact ⟨a, cap, rfl⟩
theorem rslot_no (L B : Nat) (w : World) (R : List Value → Msg → Prop) (no : Int) (h1 : -9223372036854775808 ≤ no) (h2 : no ≤ 9223372036854775807) : RSlot L B w R [.int .i64 no, .slice none 0 0, .slice none 0 0] ⟨no, [], []⟩ :=
  ⟨_, _, rfl, h1, h2, rowNil _ _ _ _ _, rowNil _ _ _ _ _⟩
theorem set_without (m : Msg) (no : Int) : setSlot m ⟨no, [], []⟩ = .mk (without m no) := by unfold setSlot; rw [if_pos rfl]
theorem Box3.set {k K : Nat} {w : World} {c0 c1 c2 : Value} (h : Box3 k w c0 c1 c2) (hK : k < K) (v : Value) : Box3 k (w.setCell ⟨K, 0, none⟩ v) c0 c1 c2 := by
  have e : ∀ j, (w.setCell ⟨K, 0, none⟩ v).cell? ⟨k, j, none⟩ = w.cell? ⟨k, j, none⟩ := fun j => World.cell?_setCell_other _ _ _ _ (fun e => by simp at e <;> omega)
  exact ⟨by simpa [World.setCell] using h.1, (e 0).trans h.2.1, (e 1).trans h.2.2.1, (e 2).trans h.2.2.2⟩
theorem Box1.set {k K : Nat} {w : World} {c : Value} (h : Box1 k w c) (hK : k < K) (v : Value) : Box1 k (w.setCell ⟨K, 0, none⟩ v) c :=
  ⟨by simpa [World.setCell] using h.1, (World.cell?_setCell_other _ _ _ _ (fun e => by simp at e <;> omega)).trans h.2⟩
open Go.RowKit in
theorem newf_below (w : World) (v : Value) (t : TypeId) {w' : World} (b : Below (w.alloc (.cells #[v] t)).heap.size (w.alloc (.cells #[v] t)) w') : w'.frozen? ⟨w.heap.size, 0, none⟩ = false :=
  (b.frozen (p := ⟨w.heap.size, 0, none⟩) (by simp)).trans (al_newf w v t)
/-- A cell that may have been made: if so it holds this, and may be written. -/
def Kept (p : Addr) (w : World) (o : Option Value) : Prop := ∀ v, o = some v → w.cell? p = some v ∧ w.frozen? p = false
theorem Kept.none (p : Addr) (w : World) : Kept p w Option.none := fun _ h => by cases h
open Go.RowKit in
theorem Kept.below {p : Addr} {w w' : World} {o : Option Value} (h : Kept p w o) (b : Below w.heap.size w w') : Kept p w' o := fun v hv => by
  obtain ⟨h1, h2⟩ := h v hv
  exact ⟨(b.cell (block_lt_of_cell h1)).trans h1, (b.frozen (block_lt_of_cell h1)).trans h2⟩
theorem Kept.new (w : World) (v : Value) (t : TypeId) : Kept ⟨w.heap.size, 0, Option.none⟩ (w.alloc (.cells #[v] t)) (some v) := fun u hu => by
  cases hu; exact ⟨al_new w v t, al_newf w v t⟩
theorem Kept.get {p : Addr} {w : World} {v : Value} (h : Kept p w (some v)) : w.cell? p = some v ∧ w.frozen? p = false := h v rfl
open Go.RowKit in
theorem Kept.fresh (w : World) (v : Value) (t : TypeId) {w' : World} (b : Below (w.alloc (.cells #[v] t)).heap.size (w.alloc (.cells #[v] t)) w') : w'.cell? ⟨w.heap.size, 0, Option.none⟩ = some v ∧ w'.frozen? ⟨w.heap.size, 0, Option.none⟩ = false :=
  ((Kept.new w v t).below b).get
end Go.Tr
