/- Slices of bytes in memory, and texts: what a proof says of them, and the model's operations on them. No program is named here. -/
import Derived.Test.YthikfifoomfjgaaGreatLib
import Derived.Deep.LoopGhost
import Derived.Laws.BytesArg
import Derived.Laws.AppendOwnNone
namespace Go
set_option linter.unusedVariables false
set_option linter.unusedSimpArgs false
variable {P : Program}
/-- 'range' over a string goes on by one sign, whatever it is. -/
theorem run_next_sign (w : World) (s : ByteArray) (pos : Nat) (ty : TypeId) (c k : Nat) (h : pos < s.size) (hd : Utf8.decode s pos = (c, k)) :
    (Instr.next (.pointer (some ⟨w.heap.size, 0, none⟩)) true ty).run P (w.iter s pos) =
      .ok (.tuple #[.bool true, .int .i64 pos, .int .i32 c]) (w.iter s (pos + k)) := by
  simp only [Instr.next, getObj, setObj, Sem.run_bind, Sem.run, World.iter_heap, Result.andThen, h, if_true, hd, World.iter_set]
  simp [goInt]
/-- A slice of bytes that reads as the numbers 'l'. -/
def Bytes (w : World) (v : Value) (l : List Int) : Prop :=
  ∃ (a : Option Addr) (cap : Nat), v = .slice a l.length cap ∧ l.length ≤ cap ∧ cap ≤ maxLen ∧ (∀ n ∈ l, 0 ≤ n ∧ n ≤ 255) ∧ (a = none → cap = 0) ∧
    (l ≠ [] → ∃ b off, a = some ⟨b, off, none⟩ ∧ ∀ i, i < l.length → w.cell? ⟨b, off + i, none⟩ = some (.int .u8 (l.getD i 0)))
theorem lt_of_cell {w : World} {a : Addr} {v : Value} (h : w.cell? a = some v) : a.block < w.heap.size := block_lt_of_cell h
theorem Bytes.below {w w' : World} {v : Value} {l : List Int} (h : Bytes w v l) (hb : RowKit.Below w.heap.size w w') : Bytes w' v l := by
  obtain ⟨a, cap, rfl, h1, h2, h3, h5, h4⟩ := h
  refine ⟨a, cap, rfl, h1, h2, h3, h5, fun hl => ?_⟩
  obtain ⟨b, off, rfl, hc⟩ := h4 hl
  exact ⟨b, off, rfl, fun i hi => (hb.cell (p := ⟨b, off + i, none⟩) (lt_of_cell (hc i hi))).trans (hc i hi)⟩
/-- Its bytes, as a text. -/
theorem Bytes.convert {w : World} {v : Value} {l : List Int} (h : Bytes w v l) {src e dst : TypeId} (hs : P.underlying src = some (.slice e)) (he : P.underlying e = some (.int .u8)) (hd : P.underlying dst = some .string) :
    (Go.convert src dst v).run P w = .ok (.string (strOfNums l)) w := by
  obtain ⟨a, cap, rfl, h1, h2, h3, h5, h4⟩ := h
  by_cases hl : l = []
  · subst hl
    rw [run_convert_bytes_string w src dst e _ _ _ hs he hd]
    cases a with
    | none => simp [Conv.bytesToString, strOfNums]; rfl
    | some a =>
      exact run_bytesToString w a 0 cap [] (by simp [loadCells, loadCellsFrom, Sem.run_pure])
  · obtain ⟨b, off, rfl, hc⟩ := h4 hl
    exact run_convert_bytes_arg w src e hs he b off _ cap l rfl (fun i hi => hc i hi) dst hd
/-- A part of a slice. -/
theorem Bytes.slice {w : World} {a : Option Addr} {cap n : Nat} {l : List Int} (h : Bytes w (.slice a n cap) l) (i j : Nat) (hij : i ≤ j) (hj : j ≤ l.length) {t e : TypeId} (ht : P.underlying t = some (.slice e))
    (he : ∀ w, (sizeOf e).run P w = .ok 1 w) :
    ∃ a' cap', (∀ w1, (Instr.slice t (.slice a n cap) (some (.int .i64 i)) (some (.int .i64 j)) none).run P w1 = .ok (.slice a' (j - i) cap') w1) ∧ Bytes w (.slice a' (j - i) cap') ((l.take j).drop i) := by
  obtain ⟨a0, cap0, e0, h1, h2, h3, h5, h4⟩ := h
  obtain ⟨rfl, rfl, rfl⟩ : a = a0 ∧ n = l.length ∧ cap = cap0 := by simpa using e0
  refine ⟨if cap = i then a else a.map (·.add (i * 1)), cap - i, fun w1 => ?_, if cap = i then a else a.map (·.add (i * 1)), cap - i, ?_, ?_, ?_, ?_, ?_, ?_⟩
  · have e1 : (Instr.sliceBound (.int .i64 (j : Int)) cap .sliceAcap).run P w1 = .ok j w1 := by
      simp [Instr.sliceBound, asIntOf, go_sem]; omega
    have e2 : (Instr.sliceBound (.int .i64 (i : Int)) j .sliceB).run P w1 = .ok i w1 := by
      simp [Instr.sliceBound, asIntOf, go_sem]; omega
    simp [Instr.slice, Instr.sliceBounds, run_underlying ht, e1, e2, he, go_sem]
    intro hlt; omega
  · congr 1; simp; omega
  · simp; omega
  · omega
  · intro n hn; exact h3 n (List.mem_of_mem_take (List.mem_of_mem_drop hn))
  · intro hnone
    have : a = none := by
      split at hnone
      · exact hnone
      · cases a with
        | none => rfl
        | some x => simp at hnone
    have := h5 this; omega
  · intro hne
    have hlen : i < j := by
      rcases Nat.lt_or_ge i j with h | h
      · exact h
      · exfalso; apply hne; apply List.eq_nil_of_length_eq_zero; simp; omega
    obtain ⟨b, off, rfl, hc⟩ := h4 (by intro h; subst h; simp at hj; omega)
    refine ⟨b, off + i, ?_, ?_⟩
    · rw [if_neg (by omega)]
      simp only [Option.map_some, Nat.mul_one]
      congr 1
      unfold Addr.add
      split <;> simp_all
    · intro k hk
      simp only [List.length_drop, List.length_take] at hk
      have := hc (i + k) (by omega)
      rw [show off + i + k = off + (i + k) by omega, this]
      congr 2
      simp only [List.getD, List.getElem?_drop, List.getElem?_take]
      rw [if_pos (by omega)]
/-- 'append(v, x...)': v is the call's own row; x any slice whose cells are known, nil too. -/
theorem wpList_append_src {w : World} {ops : Array Oper} {rest : List Oper} {o : Oper} {a : Act} {Q : Exit → Act → World → Prop} (hgd : o.guard = none) (s x : Operand) (t : TypeId)
    (ho : o.op = .call { callee := .builtin .append, args := #[s, x], argTypes := #[t, t] })
    (base : Nat) (e : TypeId) (i : TypeInfo) (z : Value) (size bytes : Nat) (ht : P.underlying t = some (.slice e)) (hi : P.info? e = some i) (hz : i.zero = some z)
    (hsize : i.size = size) (hby : i.bytes = bytes) (hzs : z.cells.size = size) (hsz : 0 < size)
    (v : Value) (n : Nat) (xs : List Value) (hs : a.eval s = v) (hown : w.ownsRow base e size v n xs)
    (ao : Option Addr) (m c : Nat) (news : List Value) (hx : a.eval x = .slice ao m c) (hl : news.length = m * size)
    (hao : (ao = none ∧ m = 0 ∧ c = 0) ∨ ∃ ad, ao = some ad ∧ ∀ j u, news[j]? = some u → w.cell? (ad.add j) = some u) (h1 : ∀ u ∈ news, u.oneCell' = true)
    (h63 : n + m ≤ maxLen) (hbytes : (n + m) * bytes ≤ 140737488355328) (hbase : base ≤ w.heap.size)
    (h : ∀ v' w', w'.ownsRow base e size v' (n + m) (xs ++ news) → w.grownBy w' v.ownBlock → wpList P ops Q rest (a.put o.dst v') w') : wpList P ops Q (o :: rest) a w := by
  rcases hao with ⟨rfl, rfl, rfl⟩ | ⟨ad, rfl, hc⟩
  · have hn : news = [] := List.eq_nil_of_length_eq_zero (by simpa using hl)
    subst hn
    refine wpList_append_own_none hgd s x t ho base e i size ht hi v n xs hs hown hx ?_
    have := h v w (by simpa using hown) (World.grownBy.refl _ _)
    exact this
  · exact wpList_append_own w hgd s x t ho base e i z size bytes ht hi hz hsize hby hzs hsz v n xs hs hown ad m c news hx hl hc h1 h63 hbytes hbase fun v' w' a1 a2 _ => h v' w' a1 a2
/-- The cells of a slice of bytes, as the source of an append. -/
theorem Bytes.src {w : World} {a : Option Addr} {n cap : Nat} {l : List Int} (h : Bytes w (.slice a n cap) l) :
    n = l.length ∧ ((a = none ∧ n = 0 ∧ cap = 0) ∨ ∃ ad, a = some ad ∧ ∀ j u, (l.map (Value.int .u8))[j]? = some u → w.cell? (ad.add j) = some u) := by
  obtain ⟨a0, cap0, e0, h1, h2, h3, h5, h4⟩ := h
  obtain ⟨rfl, rfl, rfl⟩ : a = a0 ∧ n = l.length ∧ cap = cap0 := by simpa using e0
  refine ⟨rfl, ?_⟩
  cases a with
  | none =>
    refine .inl ⟨rfl, ?_, h5 rfl⟩
    have := h5 rfl; omega
  | some ad =>
    refine .inr ⟨ad, rfl, fun j u hj => ?_⟩
    have hjl : j < l.length := by have := (List.getElem?_eq_some_iff.1 hj).1; simpa using this
    obtain ⟨b, off, e, hc⟩ := h4 (by intro h; subst h; simp at hjl)
    cases e
    have e1 : (⟨b, off, none⟩ : Addr).add j = ⟨b, off + j, none⟩ := by unfold Addr.add; split <;> simp_all
    rw [e1, hc j hjl]
    simp [hjl] at hj
    simp [List.getD, hjl, hj]
/-- A row of the call's own that holds bytes. -/
theorem Bytes.of_owns {w : World} {base n : Nat} {e : TypeId} {v : Value} {l : List Int} (h : w.ownsRow base e 1 v n (l.map (Value.int .u8))) (hb : ∀ x ∈ l, 0 ≤ x ∧ x ≤ 255) : Bytes w v l := by
  obtain ⟨h0, h⟩ := h
  have hn : n = l.length := by simpa using h0.symm
  subst hn
  rcases h with ⟨rfl, hz⟩ | ⟨g, cap, cur, rfl, hg, hh, h1, h2, h3, h4⟩
  · have : l = [] := List.eq_nil_of_length_eq_zero hz
    subst this
    exact ⟨none, 0, rfl, by simp, by unfold maxLen; omega, by simp, fun _ => rfl, fun h => absurd rfl h⟩
  · refine ⟨_, _, rfl, h1, h2, hb, by simp, fun _ => ⟨_, _, rfl, fun i hi => ?_⟩⟩
    rw [cell_of_row _ _ _ _ _ _ hh]
    simp only [Nat.mul_one] at h4
    have : cur.toList[i]? = (l.map (Value.int .u8))[i]? := by rw [← h4, List.getElem?_take, if_pos hi]
    simp only [Nat.zero_add, ← Array.getElem?_toList, this]
    simp [List.getD, hi]
theorem bytes_oneCell (l : List Int) : ∀ u ∈ l.map (Value.int .u8), u.oneCell' = true := by
  intro u hu
  obtain ⟨_, _, rfl⟩ := List.mem_map.1 hu
  rfl
end Go
