/- Small laws on blocks that are made, one behind the other, and written. -/
import Derived.Test.YthikfifoomfjgaaGreatPAx0
import Derived.Test.YthikfifoomfjgaaGreatLib
namespace Go.Proofs.YthikfifoomfjgaaGreat.PA
open Go.RowKit Go.Proofs.YthikfifoomfjgaaGreatW.PrintWords Go.Proofs.YthikfifoomfjgaaGreatW.PrintLast Go.Proofs.YthikfifoomfjgaaGreatW.PrintMore
set_option linter.unusedVariables false
set_option linter.unusedSimpArgs false
/-- A block of seven cells, written whole, cell by cell. -/
theorem blk7 {w : World} {g : Nat} {t : TypeId} {a0 a1 a2 a3 a4 a5 a6 : Value} (h : w.heap[g]? = some (.cells #[a0, a1, a2, a3, a4, a5, a6] t (0, 0))) (v0 v1 v2 v3 v4 v5 v6 : Value) :
    (((((((w.setCell ⟨g, 0, none⟩ v0).setCell ⟨g, 1, none⟩ v1).setCell ⟨g, 2, none⟩ v2).setCell ⟨g, 3, none⟩ v3).setCell ⟨g, 4, none⟩ v4).setCell ⟨g, 5, none⟩ v5).setCell ⟨g, 6, none⟩ v6).heap[g]? = some (.cells #[v0, v1, v2, v3, v4, v5, v6] t (0, 0)) := by
  have h0 := blk_put (cs' := #[v0, a1, a2, a3, a4, a5, a6]) h 0 v0 rfl
  have h1 := blk_put (cs' := #[v0, v1, a2, a3, a4, a5, a6]) h0 1 v1 rfl
  have h2 := blk_put (cs' := #[v0, v1, v2, a3, a4, a5, a6]) h1 2 v2 rfl
  have h3 := blk_put (cs' := #[v0, v1, v2, v3, a4, a5, a6]) h2 3 v3 rfl
  have h4 := blk_put (cs' := #[v0, v1, v2, v3, v4, a5, a6]) h3 4 v4 rfl
  have h5 := blk_put (cs' := #[v0, v1, v2, v3, v4, v5, a6]) h4 5 v5 rfl
  exact blk_put (cs' := #[v0, v1, v2, v3, v4, v5, v6]) h5 6 v6 rfl
theorem below7 {b : Nat} {w0 w : World} (h : Below b w0 w) {g : Nat} (hg : b ≤ g) (v0 v1 v2 v3 v4 v5 v6 : Value) :
    Below b w0 (((((((w.setCell ⟨g, 0, none⟩ v0).setCell ⟨g, 1, none⟩ v1).setCell ⟨g, 2, none⟩ v2).setCell ⟨g, 3, none⟩ v3).setCell ⟨g, 4, none⟩ v4).setCell ⟨g, 5, none⟩ v5).setCell ⟨g, 6, none⟩ v6) :=
  ((((((h.setCell (p := ⟨g, 0, none⟩) hg v0).setCell (p := ⟨g, 1, none⟩) hg v1).setCell (p := ⟨g, 2, none⟩) hg v2).setCell (p := ⟨g, 3, none⟩) hg v3).setCell (p := ⟨g, 4, none⟩) hg v4).setCell (p := ⟨g, 5, none⟩) hg v5).setCell (p := ⟨g, 6, none⟩) hg v6
theorem blk_two (w : World) (x y : Obj) : ((w.alloc x).alloc y).heap[w.heap.size + 1]? = some y := by
  have := heap_alloc_last (w.alloc x) y
  simpa using this
theorem below2 (w : World) (x y : Obj) : Below w.heap.size w ((w.alloc x).alloc y) := (al1 _ _).nx (al1 _ _)
theorem blk_two0 (w : World) (x y : Obj) : ((w.alloc x).alloc y).heap[w.heap.size]? = some x :=
  ((al1 (w.alloc x) y).block w.heap.size (by simp)).trans (heap_alloc_last w x)
theorem after2 {w w' : World} {x y : Obj} {n : Nat} (hb : Below (((w.alloc x).alloc y).drewN n).heap.size (((w.alloc x).alloc y).drewN n) w') : w'.heap[w.heap.size + 1]? = some y ∧ Below w.heap.size w w' ∧ w'.heap[w.heap.size]? = some x :=
  have hs : (((w.alloc x).alloc y).drewN n).heap.size = w.heap.size + 1 + 1 := by simp
  ⟨(hb.block _ (by omega)).trans (blk_two _ _ _), (pw_below_drewN (below2 _ _ _) _).nx hb, (hb.block _ (by omega)).trans (blk_two0 _ _ _)⟩
theorem blk_3 (w : World) (x y z : Obj) : (((w.alloc x).alloc y).alloc z).heap[w.heap.size + 2]? = some z := by
  have := blk_two (w.alloc x) y z
  simpa using this
theorem blk_31 (w : World) (x y z : Obj) : (((w.alloc x).alloc y).alloc z).heap[w.heap.size + 1]? = some y := by
  have := blk_two0 (w.alloc x) y z
  simpa using this
theorem below3 (w : World) (x y z : Obj) : Below w.heap.size w (((w.alloc x).alloc y).alloc z) := (below2 _ _ _).nx (al1 _ _)
theorem after3 {w w' : World} {x y z : Obj} (hb : Below (((w.alloc x).alloc y).alloc z).heap.size (((w.alloc x).alloc y).alloc z) w') : w'.heap[w.heap.size + 2]? = some z ∧ Below w.heap.size w w' :=
  have hs : (((w.alloc x).alloc y).alloc z).heap.size = w.heap.size + 1 + 1 + 1 := by simp
  ⟨(hb.block _ (by omega)).trans (blk_3 _ _ _ _), (below3 _ _ _ _).nx hb⟩
end Go.Proofs.YthikfifoomfjgaaGreat.PA
