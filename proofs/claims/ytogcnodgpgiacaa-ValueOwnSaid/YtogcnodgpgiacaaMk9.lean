/- Messages around messages, made one behind the other: their row in memory, their depth and size. -/
import Derived.Test.YtogcnodgpgiacaaPlain9
import Derived.Test.YtogcnodgpgiacaaValues
import Derived.Test.YtogcnodgpgiacaaOpen
namespace Go.Tr
open Go.RowKit
set_option linter.unusedVariables false
def slotOf (i : Int) (x : Msg) : Slot := ⟨i, [], [⟨0, ByteArray.empty, [x]⟩]⟩
def slots (l : List Msg) : List Slot := l.mapIdx fun i x => slotOf i x
theorem slots_snoc (l : List Msg) (x : Msg) : slots (l ++ [x]) = slots l ++ [slotOf l.length x] := by
  unfold slots
  rw [List.mapIdx_append]
  simp
theorem slots_len (l : List Msg) : (slots l).length = l.length := by simp [slots]
/-- The greatest depth, the size of all and one for each. -/
def mostOf (l : List Msg) : Nat := (l.map Msg.deep).foldl max 0
def sumOf (l : List Msg) : Nat := (l.map fun x => x.size + 1).sum
theorem mostOf_snoc (l : List Msg) (x : Msg) : mostOf (l ++ [x]) = max (mostOf l) x.deep := by
  unfold mostOf
  rw [List.map_append, foldl_max_app]
  simp
theorem sumOf_snoc (l : List Msg) (x : Msg) : sumOf (l ++ [x]) = sumOf l + (x.size + 1) := by simp [sumOf]
theorem slotOf_size (i : Int) (x : Msg) : slotSize (slotOf i x) = x.size + 1 := by
  have h := size_mk [slotOf i x]
  rw [Msg.size_eq] at h
  simp [Msg.subs, Msg.vals, Msg.f, slotOf] at h ⊢
  omega
theorem slotOf_deep (i : Int) (x : Msg) : slotDeep (slotOf i x) = x.deep := by
  have h := deep_mk [slotOf i x]
  rw [Msg.deep_eq] at h
  simp [Msg.subs, Msg.vals, Msg.f, slotOf] at h ⊢
  omega
theorem slots_deep (l : List Msg) : (Msg.mk (slots l)).deep = mostOf l + 1 := by
  have e : (slots l).map slotDeep = l.map Msg.deep := by
    apply List.ext_getElem
    · simp [slots]
    · intro i h1 h2
      simp [slots, slotOf_deep]
  rw [deep_mk, e]
  rfl
theorem slots_size (l : List Msg) : (Msg.mk (slots l)).size = sumOf l := by
  have e : (slots l).map slotSize = l.map fun x => x.size + 1 := by
    apply List.ext_getElem
    · simp [slots]
    · intro i h1 h2
      simp [slots, slotOf_size]
  rw [size_mk, e]
  rfl
/-- A slot around a message, as it lies in memory. -/
def SlotAt (L : Nat) (w0 w : World) (kb n : Nat) (cs : List Value) (s : Slot) : Prop :=
  ∃ (i : Int) (x : Msg) (bV bM : Nat) (a : Option Addr) (cap : Nat), s = slotOf i x ∧ -9223372036854775808 ≤ i ∧ i ≤ 9223372036854775807 ∧ cs = [.int .i64 i, .slice none 0 0, .slice (some ⟨bV, 0, none⟩) 1 1] ∧ kb < bV ∧ kb < bM ∧
    w.heap[bV]? = some (.cells #[.int .i64 0, .string ByteArray.empty, .slice (some ⟨bM, 0, none⟩) 1 1] 38 (0, 0)) ∧ w.heap[bM]? = some (.cells #[.slice a x.f.length cap] 24 (0, 0)) ∧ RMsg L 0 w0 n [.slice a x.f.length cap] x
theorem SlotAt.imp {L : Nat} {w0 w w' : World} {kb n : Nat} {cs : List Value} {s : Slot} (h : SlotAt L w0 w kb n cs s) (hb : ∀ b, kb < b → ∀ c t, w.heap[b]? = some (.cells c t (0, 0)) → t ≠ 27 → w'.heap[b]? = some (.cells c t (0, 0))) : SlotAt L w0 w' kb n cs s := by
  obtain ⟨i, x, bV, bM, a, cap, h1, h2, h3, h4, h5, h6, h7, h8, h9⟩ := h
  exact ⟨i, x, bV, bM, a, cap, h1, h2, h3, h4, h5, h6, hb bV h5 _ _ h7 (by decide), hb bM h6 _ _ h8 (by decide), h9⟩
theorem lt_blk {w : World} {b : Nat} {o : Obj} (h : w.heap[b]? = some o) : b < w.heap.size := (Array.getElem?_eq_some_iff.1 h).1
/-- A row of such slots that is one's own. -/
def Made9 (L : Nat) (w0 w : World) (kb n : Nat) (v : Value) (l : List Slot) : Prop := Has 27 3 (kb + 1) w (SlotAt L w0 w kb n) v l
theorem own_keep {w w' : World} {B e k n : Nat} {v : Value} {xs : List Value} (h : w.ownsRow B e k v n xs) (hb : ∀ g o, B ≤ g → w.heap[g]? = some o → w'.heap[g]? = some o) : w'.ownsRow B e k v n xs := by
  obtain ⟨h1, h2⟩ := h
  refine ⟨h1, h2.imp id ?_⟩
  rintro ⟨g, cap, cur, h3, h4, h5, h6⟩
  exact ⟨g, cap, cur, h3, h4, hb g _ h4 h5, h6⟩
theorem Part.imp9 {k : Nat} {R R' : List Value → Slot → Prop} {ys : List Value} {xs : List Slot} (h : Part k R ys xs xs.length) (hR : ∀ cs s, R cs s → R' cs s) : Part k R' ys xs xs.length := fun t ht hl => by
  obtain ⟨cs, h1, h2, h3⟩ := h t ht hl
  exact ⟨cs, h1, h2, hR _ _ h3⟩
theorem Made9.below {L : Nat} {w0 w w' : World} {kb n : Nat} {v : Value} {l : List Slot} (h : Made9 L w0 w kb n v l) (hb : Below w.heap.size w w') : Made9 L w0 w' kb n v l := by
  obtain ⟨ys, h1, h2⟩ := h
  exact ⟨ys, own_keep h1 fun g o _ hg => (hb.block g (lt_blk hg)).trans hg, Part.imp9 h2 fun cs s hs => hs.imp fun b _ c t hg _ => (hb.block b (lt_blk hg)).trans hg⟩
theorem Made9.set {L : Nat} {w0 w : World} {kb n : Nat} {v : Value} {l : List Slot} (h : Made9 L w0 w kb n v l) (u : Value) : Made9 L w0 (w.setCell ⟨kb, 0, none⟩ u) kb n v l := by
  have far : ∀ b o, kb < b → w.heap[b]? = some o → (w.setCell ⟨kb, 0, none⟩ u).heap[b]? = some o := fun b o hb hg => by
    rw [← hg]
    exact Go.RowKit.Below.heap_setCell w ⟨kb, 0, none⟩ u b (by show b ≠ kb; omega)
  obtain ⟨ys, h1, h2⟩ := h
  exact ⟨ys, own_keep h1 fun g o hB hg => far g o (by omega) hg, Part.imp9 h2 fun cs s hs => hs.imp fun b hb c t hg _ => far b _ hb hg⟩
theorem Made9.nil (L : Nat) (w0 w : World) (kb n : Nat) : Made9 L w0 w kb n (.slice none 0 0) [] := ⟨[], World.ownsRow_nil _ _ _ _, Part.nil _ _⟩
theorem own_type {w : World} {B e k n : Nat} {v : Value} {xs : List Value} (h : w.ownsRow B e k v n xs) {b : Nat} {c : Array Value} {t : TypeId} (hb : w.heap[b]? = some (.cells c t (0, 0))) (ht : t ≠ e) : some b ≠ v.ownBlock := by
  intro hv
  rcases h.2 with ⟨h1, -⟩ | ⟨g, cap, cur, h3, h4, h5, h6⟩
  · subst h1; cases hv
  · subst h3
    have : b = g := by injection hv
    subst this
    rw [hb] at h5
    injection h5 with h5
    injection h5 with _ h5 _
    exact ht h5
/-- One more slot. -/
theorem Made9.app {L : Nat} {w0 w w' : World} {kb n : Nat} {v v' : Value} {l : List Slot} {ys : List Value} {cs : List Value} {s : Slot} (h1 : w.ownsRow (kb + 1) 27 3 v l.length ys) (h2 : Part 3 (SlotAt L w0 w kb n) ys l l.length) (hs : SlotAt L w0 w kb n cs s)
    (ho : w'.ownsRow (kb + 1) 27 3 v' (l.length + 1) (ys ++ cs)) (hg : w.grownBy w' v.ownBlock) : Made9 L w0 w' kb n v' (l ++ [s]) := by
  have keep : ∀ cs s, SlotAt L w0 w kb n cs s → SlotAt L w0 w' kb n cs s := fun cs s h => h.imp fun b _ c t hb ht => (hg.block b (lt_blk hb) (own_type h1 hb ht)).trans hb
  have hc : cs.length = 3 := by
    obtain ⟨i, x, bV, bM, a, cap, -, -, -, rfl, -⟩ := hs
    rfl
  refine ⟨ys ++ cs, by simpa using ho, Part.app (by rw [h1.1]) (Part.imp9 h2 keep) ?_⟩
  intro t ht _
  have : t = 0 := by simp at ht; omega
  subst this
  exact ⟨cs, hc, fun j u hj => by simpa using hj, keep _ _ hs⟩
/-- A row of one element. -/
theorem row_one {α : Type} {L B k b : Nat} {w : World} {R : List Value → α → Prop} {c : Array Value} {t : TypeId} {x : α} (hL : 1 ≤ L) (hB : B ≤ b) (h : w.heap[b]? = some (.cells c t (0, 0))) (hc : c.size = k) (hR : R c.toList x) : RowOf L B w k R (.slice (some ⟨b, 0, none⟩) 1 1) [x] := by
  refine ⟨some ⟨b, 0, none⟩, 1, rfl, by simpa using hL, by simp, by unfold maxLen; omega, by simp, fun _ => ⟨b, 0, rfl, hB, fun i hi => ?_⟩⟩
  have hi0 : i = 0 := by simp at hi; omega
  subst hi0
  refine ⟨c.toList, by simpa using hc, fun j u hj => ?_, hR⟩
  have hj' : c[j]? = some u := by simpa using hj
  simp [World.cell?, h, hj', go_sem]
/-- The message that has been made. -/
theorem Made9.msg {L : Nat} {w0 w : World} {kb n : Nat} {v : Value} {l : List Slot} (h : Made9 L w0 w kb n v l) (hL : l.length ≤ L) (hL1 : 1 ≤ L) (hb : Below w0.heap.size w0 w) : RMsg L 0 w (n + 2) [v] (.mk l) := by
  refine ⟨v, rfl, Has.row h hL (Nat.zero_le _) (Keeps.refl _ _) ?_⟩
  intro cs s _ hs
  obtain ⟨i, x, bV, bM, a, cap, rfl, i1, i2, rfl, k1, k2, g1, g2, hx⟩ := hs
  have hm : RMsg L 0 w (n + 1) [.slice a x.f.length cap] x := RMsg.keep (Nat.le_refl _) (Keeps.refl _ _) n (n + 1) (by omega) (RMsg.below hb n hx)
  have hrm : RowOf L 0 w 1 (RMsg L 0 w (n + 1)) (.slice (some ⟨bM, 0, none⟩) 1 1) [x] := row_one hL1 (Nat.zero_le _) g2 rfl hm
  have hv : RVal L 0 w (RMsg L 0 w (n + 1)) [.int .i64 0, .string ByteArray.empty, .slice (some ⟨bM, 0, none⟩) 1 1] ⟨0, ByteArray.empty, [x]⟩ := ⟨_, rfl, (by decide : (-9223372036854775808 : Int) ≤ 0), (by decide : (0 : Int) ≤ 9223372036854775807), (by decide : ByteArray.empty.size ≤ maxLen), hrm⟩
  exact ⟨_, _, rfl, i1, i2, ⟨none, 0, rfl, Nat.zero_le _, Nat.zero_le _, Nat.zero_le _, fun _ => rfl, fun h => absurd rfl h⟩, row_one hL1 (Nat.zero_le _) g1 rfl hv⟩
end Go.Tr
