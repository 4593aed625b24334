/- General laws on rows of elements of several cells, known whole: copy, clear, append of made elements, as equations between worlds. No program is named here. -/
import Derived.Test.YthikfifoomfjgaaGreatVals
import Derived.Lib.AppendZerosOnto
import Derived.Laws.IdiomCopy
import Derived.Laws.CopyOwn
import Derived.Deep.RegionLaw
namespace Go
set_option linter.unusedVariables false
set_option linter.unusedSimpArgs false
variable {P : Program}
/-- Cells laid over others, from a place on. -/
def setL : List Value → Nat → List Value → List Value
  | ys, _, [] => ys
  | ys, o, d :: ds => setL (ys.set o d) (o + 1) ds
theorem setL_length : ∀ (ds ys : List Value) (o : Nat), (setL ys o ds).length = ys.length
  | [], _, _ => rfl
  | d :: ds, ys, o => by rw [setL, setL_length ds]; simp
theorem setL_get (ds : List Value) : ∀ (ys : List Value) (o j : Nat), o + ds.length ≤ ys.length → (setL ys o ds)[j]? = if o ≤ j ∧ j < o + ds.length then ds[j - o]? else ys[j]? := by
  induction ds with
  | nil => intro ys o j h; rw [setL, if_neg (by simp)]
  | cons d ds ih =>
    intro ys o j h
    simp only [List.length_cons] at h ⊢
    rw [setL, ih _ _ _ (by simp; omega)]
    by_cases h1 : o + 1 ≤ j ∧ j < o + 1 + ds.length
    · rw [if_pos h1, if_pos (by omega), show j - o = (j - (o + 1)) + 1 by omega, List.getElem?_cons_succ]
    · rw [if_neg h1]
      by_cases h2 : j = o
      · subst h2; rw [if_pos (by omega), List.getElem?_set_self (by omega)]; simp
      · rw [if_neg (by omega), List.getElem?_set_ne (by omega)]
theorem setL_eq (ds ys : List Value) (o : Nat) (h : o + ds.length ≤ ys.length) : setL ys o ds = ys.take o ++ (ds ++ ys.drop (o + ds.length)) := by
  apply List.ext_getElem?
  intro j
  rw [setL_get ds ys o j h]
  by_cases h1 : j < o
  · rw [if_neg (by omega), List.getElem?_append_left (by simp; omega), List.getElem?_take_of_lt h1]
  · rw [List.getElem?_append_right (by simp; omega)]
    have hl : (ys.take o).length = o := by simp; omega
    rw [hl]
    by_cases h2 : j < o + ds.length
    · rw [if_pos (by omega), List.getElem?_append_left (by omega)]
    · rw [if_neg (by omega), List.getElem?_append_right (by omega), List.getElem?_drop]
      congr 1; omega
theorem owns_storedL {base n cap g size : Nat} {e : TypeId} (ds : List Value) : ∀ {w : World} {ys : List Value} (h : w.ownsRow base e size (.slice (some ⟨g, 0, none⟩) n cap) n ys) (o : Nat),
    (w.setCells g o ds).ownsRow base e size (.slice (some ⟨g, 0, none⟩) n cap) n (setL ys o ds) ∧ w.grownBy (w.setCells g o ds) (some g) := by
  induction ds with
  | nil => intro w ys h o; exact ⟨h, .refl _ _⟩
  | cons d ds ih =>
    intro w ys h o
    have h0 := h.stored o d
    have h1 := ih h0.1 (o + 1)
    exact ⟨h1.1, h0.2.trans h1.2⟩
theorem owns_prefix {w : World} {base n m cap g size : Nat} {e : TypeId} {ys : List Value} (h : w.ownsRow base e size (.slice (some ⟨g, 0, none⟩) n cap) n ys) (hm : m ≤ n) :
    w.ownsRow base e size (.slice (some ⟨g, 0, none⟩) m cap) m (ys.take (m * size)) := by
  have hms : m * size ≤ n * size := Nat.mul_le_mul_right _ hm
  refine ⟨by rw [List.length_take, h.1]; omega, .inr ?_⟩
  rcases h.2 with ⟨h, -⟩ | ⟨g', cap', cur, e1, h1, h2, h3, h4, h5, h6⟩
  · cases h
  · cases e1
    exact ⟨_, _, cur, rfl, h1, h2, by omega, h4, h5, by rw [← h6, List.take_take]; congr 1; omega⟩
/-- The row made longer within its capacity: what lies behind is some cells. -/
theorem owns_longer {w : World} {base n m cap g size : Nat} {e : TypeId} {ys : List Value} (h : w.ownsRow base e size (.slice (some ⟨g, 0, none⟩) n cap) n ys) (hm : n ≤ m) (hc : m ≤ cap) :
    ∃ zs, w.ownsRow base e size (.slice (some ⟨g, 0, none⟩) m cap) m (ys ++ zs) := by
  have hms : n * size ≤ m * size := Nat.mul_le_mul_right _ hm
  rcases h.2 with ⟨h, -⟩ | ⟨g', cap', cur, e1, h1, h2, h3, h4, h5, h6⟩
  · cases h
  · cases e1
    have hcs : m * size ≤ cap * size := Nat.mul_le_mul_right _ hc
    refine ⟨(cur.toList.take (m * size)).drop (n * size), ?_, .inr ⟨_, _, cur, rfl, h1, h2, hc, h4, h5, ?_⟩⟩
    · have hl : cur.toList.length = cap * size := by simpa using h5
      rw [List.length_append, h.1, List.length_drop, List.length_take, hl]; omega
    · rw [← h6]
      have : (cur.toList.take (n * size)) = (cur.toList.take (m * size)).take (n * size) := by rw [List.take_take]; congr 1; omega
      rw [this, List.take_append_drop]
/-- 'copy', whatever the elements' size: all is read before anything is written. -/
theorem run_copy_size (w : World) (dT sT ty elem : TypeId) (i : TypeInfo) (size : Nat) (b o dLen dCap : Nat) (a : Addr) (sLen sCap : Nat) (cs : List Value)
    (hu : P.underlying dT = some (.slice elem)) (hi : P.info? elem = some i) (hs : i.size = size) (m : Nat) (hm : m = Nat.min sLen dLen) (hn : cs.length = m * size)
    (hsrc : ∀ j v, cs[j]? = some v → w.cell? (a.add j) = some v) (hc : ∀ j, j < cs.length → (w.cell? ⟨b, o + j, none⟩).isSome = true) (hf : ∀ j, j < cs.length → w.frozen? ⟨b, o + j, none⟩ = false) (h1 : ∀ v ∈ cs, v.oneCell' = true) :
    (Builtin.copy_ #[dT, sT] ty #[.slice (some ⟨b, o, none⟩) dLen dCap, .slice (some a) sLen sCap]).run P w = .ok (goInt m) (w.setCells b o cs) := by
  have hl := run_loadCells_list (P := P) w a cs hsrc
  have hst := run_storeCells_cells (P := P) b o cs 0 w (by simpa using hc) (by simpa using hf) h1
  subst hs
  subst hm
  rw [hn] at hl
  simp [Builtin.copy_, run_underlying hu, Builtin.lenOf, Builtin.firstCells, sizeOf, typeInfo, hi, hl, hst]
/-- 'clear', whatever the elements' size. -/
theorem run_clear_size (w : World) (t e ty : TypeId) (z : Value) (ht : P.underlying t = some (.slice e)) (hv : ∀ w, (zeroValue e).run P w = .ok z w) (b o n c : Nat) (hn : 0 < n) (zs : List Value) (hz : zs = (Builtin.zeroCells z.cells n).toList)
    (h1 : ∀ v ∈ zs, v.oneCell' = true) (hc : ∀ j, j < zs.length → (w.cell? ⟨b, o + j, none⟩).isSome = true) (hf : ∀ j, j < zs.length → w.frozen? ⟨b, o + j, none⟩ = false) :
    (Builtin.clear_ #[t] ty #[.slice (some ⟨b, o, none⟩) n c]).run P w = .ok (.tuple #[]) (w.setCells b o zs) := by
  have hst := run_storeCells_cells (P := P) b o zs 0 w (by simpa using hc) (by simpa using hf) h1
  simp only [Nat.add_zero] at hst
  obtain ⟨m, rfl⟩ : ∃ m, n = m + 1 := ⟨n - 1, by omega⟩
  simp [Builtin.clear_, run_underlying ht, hv, ← hz, hst]
theorem zeroCells_one {z : Array Value} (h : ∀ v ∈ z.toList, v.oneCell' = true) (n : Nat) : ∀ v ∈ (Builtin.zeroCells z n).toList, v.oneCell' = true := by
  intro v hv
  simp only [Builtin.zeroCells, Array.toList_map, List.mem_map, Array.toList_range, List.mem_range] at hv
  obtain ⟨i, hi, rfl⟩ := hv
  have hz : 0 < z.size := by
    rcases Nat.eq_zero_or_pos z.size with h0 | h0
    · rw [h0] at hi; simp at hi
    · exact h0
  have hlt : i % z.size < z.size := Nat.mod_lt _ hz
  rw [getElem!_pos z (i % z.size) hlt]
  exact h _ (by simp)
/-- 'append(s, make([]T, k)...)' where s has no room: a row of one's own, s ahead. -/
theorem run_append_make (w : World) (base : Nat) (t tn ty e : TypeId) (i : TypeInfo) (z : Value) (kq kn : IntKind) (size bytes : Nat) (ht : P.underlying t = some (.slice e)) (htn : P.underlying tn = some (.int kn)) (hi : P.info? e = some i) (hz : i.zero = some z)
    (hsz : i.size = size) (hby : i.bytes = bytes) (hzs : z.cells.size = size) (h0s : 0 < size) (a : Addr) (n c k : Nat) (xs : List Value) (hl : xs.length = n * size) (hx : ∀ j v, xs[j]? = some v → w.cell? (a.add j) = some v)
    (h0 : 0 < k) (hg : c < n + k) (h63 : n + k ≤ maxLen) (h48 : (n + k) * bytes ≤ 140737488355328) (hbase : base ≤ w.heap.size) :
    ∃ v' w' zs, (Builtin.append_ #[t, tn] ty #[.slice (some a) n c, .int kq k]).run P w = .ok v' w' ∧ w'.ownsRow base e size v' (n + k) (xs ++ zs) ∧ RowKit.Below w.heap.size w w' ∧ (∃ cap, v' = .slice (some ⟨w.heap.size, 0, none⟩) (n + k) cap) := by
  subst hsz hby
  have hnb : (n + k) * i.bytes = n * i.bytes + k * i.bytes := Nat.add_mul _ _ _
  have hnx : Builtin.nextslicecap (n + k) c * i.bytes ≤ 2 * (n + k) * i.bytes := Nat.mul_le_mul_right _ (nextslicecap_le hg)
  rw [Nat.mul_assoc] at hnx
  have hf := run_firstCells_some (P := P) w.drew i.size n a n c xs hl (by simpa using hx)
  have hr := Lib.run_append_grow_zeros (P := P) w t tn ty e i z kq kn ht htn hi hz (some a) n c xs (by simpa [Builtin.firstCells] using hf) k h0 h0s hg (by unfold maxLen at h63; omega) (by omega) (by omega)
  refine ⟨_, _, (Builtin.zeroCells z.cells k).toList, hr, ⟨?_, .inr ⟨w.heap.size, _, _, rfl, hbase, heap_alloc_new w.drew _, grownCap_ge _ _ _ _, grownCap_le_maxLen _ _ _ _ h63, ?_, ?_⟩⟩, ?_, ⟨_, rfl⟩⟩
  · rw [List.length_append, hl, Array.length_toList, size_zeroCells, hzs, Nat.add_mul]
  · have hge := grownCap_ge w (n + k) c e
    simp only [Array.size_append, List.size_toArray, size_zeroCells, hzs, hl, ← Nat.add_mul]
    congr 1; omega
  · have hl2 : (xs ++ (Builtin.zeroCells z.cells k).toList).length = (n + k) * i.size := by rw [List.length_append, hl, Array.length_toList, size_zeroCells, hzs, Nat.add_mul]
    simp only [Array.toList_append]
    rw [← hl2]; exact List.take_left
  · exact (RowKit.Below.refl _ _).drew.alloc (Nat.le_refl _) _
/-- A step whose run is known: copy. -/
theorem step_copy_run {ops : Array Oper} {o : Oper} {a : Act} {w : World} {K : Act → World → Prop} {Q : Exit → Act → World → Prop} {E : Prop}
    (hg : o.guard = none) (d x : Operand) (dT sT : TypeId) (hop : o.op = Op.call { callee := Callee.builtin Builtin.copy, args := #[d, x], argTypes := #[dT, sT] })
    (v u : Value) (hd : a.eval d = v) (hx : a.eval x = u) {v' : Value} {w' : World} (hr : (Builtin.copy_ #[dT, sT] o.type #[v, u]).run P w = .ok v' w') (hK : K (a.put o.dst v') w') :
    if Region.wanted o (yielded ops a.tmps) = true then Oper.wp P o a w K Q else E := by
  have hw : Region.wanted o (yielded ops a.tmps) = true := by simp [Region.wanted, hg]
  rw [if_pos hw]
  unfold Oper.wp
  simp [execOp, hop, resolve, invoke, builtin, hd, hx, hr, Result.andThen]
  exact hK
theorem wpList_copy_run (w : World) {ops : Array Oper} {rest : List Oper} {o : Oper} {a : Act} {Q : Exit → Act → World → Prop} (hgd : o.guard = none) (d s : Operand) (t t' : TypeId)
    (ho : o.op = .call { callee := .builtin .copy, args := #[d, s], argTypes := #[t, t'] }) (v u : Value) (hd : a.eval d = v) (hs : a.eval s = u) {v' : Value} {w' : World}
    (hr : (Builtin.copy_ #[t, t'] o.type #[v, u]).run P w = .ok v' w') (h : wpList P ops Q rest (a.put o.dst v') w') : wpList P ops Q (o :: rest) a w := by
  refine wpList_plain hgd fun K hK => ?_
  unfold Oper.wp execOp
  simp only [ho, resolve, invoke, builtin, Sem.run_bind, Sem.run_pure, Result.andThen_ok, List.map_toArray, List.map_cons, List.map_nil, hd, hs, hr]
  exact hK _ _ h
theorem wpList_clear_run (w : World) {ops : Array Oper} {rest : List Oper} {o : Oper} {a : Act} {Q : Exit → Act → World → Prop} (hgd : o.guard = none) (s : Operand) (t : TypeId)
    (ho : o.op = .call { callee := .builtin .clear, args := #[s], argTypes := #[t] }) (u : Value) (hs : a.eval s = u) {v' : Value} {w' : World}
    (hr : (Builtin.clear_ #[t] o.type #[u]).run P w = .ok v' w') (h : wpList P ops Q rest (a.put o.dst v') w') : wpList P ops Q (o :: rest) a w := by
  refine wpList_plain hgd fun K hK => ?_
  unfold Oper.wp execOp
  simp only [ho, resolve, invoke, builtin, Sem.run_bind, Sem.run_pure, Result.andThen_ok, List.map_toArray, List.map_cons, List.map_nil, hs, hr]
  exact hK _ _ h
end Go
