/- A row of one's own that grows by append, its elements made one behind the other in blocks of their own. -/
import Derived.Test.YtogcnodgpgiacaaMk9
import Derived.Test.YtogcnodgpgiacaaOwn
namespace Go.Tr
open Go.RowKit
set_option linter.unusedVariables false
/-- What an element reads as stays so where its blocks stay. -/
def Stable {α : Type} (R : Nat → World → List Value → α → Prop) : Prop := ∀ B B' w w' cs x, B' ≤ B → Keeps B w w' → R B w cs x → R B' w' cs x
/-- An element that was made in the blocks from b on, up to a world's end; the row's own block is none of these. -/
def El {α : Type} (base : Nat) (wr : World) (R : Nat → World → List Value → α → Prop) (v : Value) (cs : List Value) (x : α) : Prop :=
  ∃ (b : Nat) (wi : World), base ≤ b ∧ R b wi cs x ∧ Keeps b wi wr ∧ wi.heap.size ≤ wr.heap.size ∧ ∀ g, v.ownBlock = some g → g < b ∨ wi.heap.size ≤ g
def Grown {α : Type} (e k base : Nat) (wr : World) (R : Nat → World → List Value → α → Prop) (v : Value) (xs : List α) : Prop :=
  ∃ ys, wr.ownsRow base e k v xs.length ys ∧ Part k (El base wr R v) ys xs xs.length
variable {α : Type} {e k base : Nat} {wr w' : World} {R : Nat → World → List Value → α → Prop} {v v' : Value} {xs : List α}
theorem Grown.nil (e k base : Nat) (wr : World) (R : Nat → World → List Value → α → Prop) : Grown e k base wr R (.slice none 0 0) ([] : List α) := ⟨[], World.ownsRow_nil _ _ _ _, Part.nil _ _⟩
theorem El.imp {cs : List Value} {x : α} (h : El base wr R v cs x) (hs : wr.heap.size ≤ w'.heap.size) (hk : ∀ b wi, base ≤ b → wi.heap.size ≤ wr.heap.size → Keeps b wi wr → (∀ g, v.ownBlock = some g → g < b ∨ wi.heap.size ≤ g) → Keeps b wi w' ∧ ∀ g, v'.ownBlock = some g → g < b ∨ wi.heap.size ≤ g) : El base w' R v' cs x := by
  obtain ⟨b, wi, h1, h2, h3, h4, h5⟩ := h
  obtain ⟨h6, h7⟩ := hk b wi h1 h4 h3 h5
  exact ⟨b, wi, h1, h2, h6, Nat.le_trans h4 hs, h7⟩
theorem Grown.below (h : Grown e k base wr R v xs) (hb : Below wr.heap.size wr w') : Grown e k base w' R v xs := by
  obtain ⟨ys, h1, h2⟩ := h
  exact ⟨ys, owns_below h1 hb, h2.imp fun cs x _ hx => hx.imp hb.size fun b wi _ _ hk hg => ⟨hk.trans (Keeps.of_below hb), hg⟩⟩
theorem Grown.set (h : Grown e k base wr R v xs) {p : Addr} (hp : p.block < base) (u : Value) : Grown e k base (wr.setCell p u) R v xs := by
  obtain ⟨ys, h1, h2⟩ := h
  have hs : (wr.setCell p u).heap.size = wr.heap.size := by simp [World.setCell]
  refine ⟨ys, own_keep h1 fun g o hB hg => ?_, h2.imp fun cs x _ hx => hx.imp (by rw [hs]; exact Nat.le_refl _) fun b wi hb _ hk hg => ⟨hk.set (by omega) u, hg⟩⟩
  rw [← hg]
  exact Below.heap_setCell wr p u g (by omega)
/-- One more element. -/
theorem Grown.app {x : α} {cs : List Value} {b : Nat} {wi : World} {ys : List Value} (h1 : wr.ownsRow base e k v xs.length ys) (h2 : Part k (El base wr R v) ys xs xs.length) (hb0 : base ≤ b) (hx : R b wi cs x) (hcs : cs.length = k) (hkp : Keeps b wi wr) (hwi : wi.heap.size ≤ wr.heap.size) (hown : ∀ g, v.ownBlock = some g → g < b)
    (s1 : w'.ownsRow base e k v' (xs.length + 1) (ys ++ cs)) (s2 : wr.grownBy w' v.ownBlock) (s3 : v'.ownBlock = v.ownBlock ∨ ∃ g, v'.ownBlock = some g ∧ wr.heap.size ≤ g) : Grown e k base w' R v' (xs ++ [x]) := by
  have key : ∀ b wi, base ≤ b → wi.heap.size ≤ wr.heap.size → Keeps b wi wr → (∀ g, v.ownBlock = some g → g < b ∨ wi.heap.size ≤ g) → Keeps b wi w' ∧ ∀ g, v'.ownBlock = some g → g < b ∨ wi.heap.size ≤ g := by
    intro b wi _ hsz hk hg
    refine ⟨fun p u hp hu => ?_, fun g hg' => ?_⟩
    · have h0 := hk p u hp hu
      have hlt : p.block < wi.heap.size := block_lt_of_cell hu
      have hne : some p.block ≠ v.ownBlock := fun e => by
        have := hg p.block e.symm
        omega
      exact s2.cell h0 hne
    · rcases s3 with s3 | ⟨g', s3, s4⟩
      · exact hg g (by rw [← s3]; exact hg')
      · rw [s3] at hg'
        injection hg' with hg'
        omega
  refine ⟨ys ++ cs, by simpa using s1, Part.app h1.1 (h2.imp fun cs x _ hx => hx.imp s2.size key) ?_⟩
  intro t ht _
  have ht0 : t = 0 := by simp at ht; omega
  subst ht0
  refine ⟨cs, hcs, fun j u hj => by simpa using hj, ?_⟩
  obtain ⟨k1, k2⟩ := key b wi hb0 hwi hkp fun g hg => Or.inl (hown g hg)
  exact ⟨b, wi, hb0, hx, k1, Nat.le_trans hwi s2.size, k2⟩
/-- One more element, made behind the row, in a box of its own: what the append leaves. -/
theorem grown_step {wA y1 w9 : World} {o : Obj} {x : α} {xs : List α} {cs ys : List Value} {g cap N : Nat} {v : Value} (hG : Grown e k base wA R v xs) (hb : Below wA.heap.size wA y1) (hbase : base ≤ wA.heap.size) (hx : R wA.heap.size y1 cs x) (hcs : cs.length = k)
    (hown : (y1.alloc o).ownsRow base e k v xs.length ys) (hpart : Part k (El base (y1.alloc o) R v) ys xs xs.length) (s1 : w9.ownsRow base e k (.slice (some ⟨g, 0, none⟩) N cap) (xs.length + 1) (ys ++ cs)) (s2 : (y1.alloc o).grownBy w9 v.ownBlock) (s3 : v.ownBlock = some g ∨ g = (y1.alloc o).heap.size) :
    Grown e k base w9 R (.slice (some ⟨g, 0, none⟩) N cap) (xs ++ [x]) ∧ (∀ (b : Nat) (c : Array Value) (t : TypeId), t ≠ e → wA.heap[b]? = some (.cells c t (0, 0)) → w9.heap[b]? = some (.cells c t (0, 0))) ∧ (∀ w : World, w.heap.size ≤ base → Below w.heap.size w wA → Below w.heap.size w w9) := by
  have hsz : y1.heap.size ≤ (y1.alloc o).heap.size := (al1 y1 o).size
  refine ⟨Grown.app hown hpart hbase hx hcs (Keeps.of_below (al1 y1 o)) hsz (fun q hq => ?_) s1 s2 ?_, fun b c t ht hB => ?_, fun w h1 h3 => ?_⟩
  · obtain ⟨ys', hw, -⟩ := hG
    exact (hw.lt q hq).2
  · rcases s3 with h | h
    · exact Or.inl h.symm
    · exact Or.inr ⟨g, rfl, by omega⟩
  · have q1 := ((hb.nx (al1 y1 o)).block b (lt_blk hB)).trans hB
    exact (s2.block b (lt_blk q1) (own_type hown q1 ht)).trans q1
  · have h4 := (h3.nx (hb.nx (al1 y1 o)))
    exact h4.grown s2 h4.size fun q hq => by have := (hown.lt q hq).1; omega
/-- The row, as it reads. -/
theorem Grown.row {L : Nat} (hR : Stable R) (h : Grown e k base wr R v xs) (hL : xs.length ≤ L) : RowOf L base wr k (R base wr) v xs :=
  Has.row (w := wr) (R := El base wr R v) h hL (Nat.le_refl _) (Keeps.refl _ _) fun cs x _ hx => by
    obtain ⟨b, wi, h1, h2, h3, -, -⟩ := hx
    exact hR b base wi wr cs x h1 h3 h2
end Go.Tr
