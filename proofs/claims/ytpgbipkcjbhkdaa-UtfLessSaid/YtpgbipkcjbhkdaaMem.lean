/- Slices of bytes in memory, and texts: what a proof says of them, and the model's operations on them. No program is named here. -/
import Derived.Test.YtpgbipkcjbhkdaaLib
import Derived.Deep.LoopGhost
import Derived.Laws.BytesArg
namespace Go
set_option linter.unusedVariables false
set_option linter.unusedSimpArgs false
variable {P : Program}
/-- 'range' over a string goes on by one sign, whatever it is. -/
theorem run_next_sign (w : World) (s : ByteArray) (pos : Nat) (ty : TypeId) (c k : Nat) (h : pos < s.size) (hd : Utf8.decode s pos = (c, k)) :
    (Instr.next (.pointer (some ⟨w.heap.size, 0, none⟩)) true ty).run P (w.iter s pos) =
      .ok (.tuple #[.bool true, .int .i64 pos, .int .i32 c]) (w.iter s (pos + k)) := by
  simp only [Instr.next, getObj, setObj, Sem.run_bind, Sem.run, World.iter_heap, Result.andThen, h, if_true, hd, World.iter_set]
  simp [goInt]
/-- A slice of bytes that reads as the numbers 'l'. -/
def Bytes (w : World) (v : Value) (l : List Int) : Prop :=
  ∃ (a : Option Addr) (cap : Nat), v = .slice a l.length cap ∧ l.length ≤ cap ∧ cap ≤ maxLen ∧ (∀ n ∈ l, 0 ≤ n ∧ n ≤ 255) ∧
    (l ≠ [] → ∃ b off, a = some ⟨b, off, none⟩ ∧ ∀ i, i < l.length → w.cell? ⟨b, off + i, none⟩ = some (.int .u8 (l.getD i 0)))
theorem lt_of_cell {w : World} {a : Addr} {v : Value} (h : w.cell? a = some v) : a.block < w.heap.size := block_lt_of_cell h
theorem Bytes.below {w w' : World} {v : Value} {l : List Int} (h : Bytes w v l) (hb : RowKit.Below w.heap.size w w') : Bytes w' v l := by
  obtain ⟨a, cap, rfl, h1, h2, h3, h4⟩ := h
  refine ⟨a, cap, rfl, h1, h2, h3, fun hl => ?_⟩
  obtain ⟨b, off, rfl, hc⟩ := h4 hl
  exact ⟨b, off, rfl, fun i hi => (hb.cell (p := ⟨b, off + i, none⟩) (lt_of_cell (hc i hi))).trans (hc i hi)⟩
/-- Its bytes, as a text. -/
theorem Bytes.convert {w : World} {v : Value} {l : List Int} (h : Bytes w v l) {src e dst : TypeId} (hs : P.underlying src = some (.slice e)) (he : P.underlying e = some (.int .u8)) (hd : P.underlying dst = some .string) :
    (Go.convert src dst v).run P w = .ok (.string (strOfNums l)) w := by
  obtain ⟨a, cap, rfl, h1, h2, h3, h4⟩ := h
  by_cases hl : l = []
  · subst hl
    rw [run_convert_bytes_string w src dst e _ _ _ hs he hd]
    cases a with
    | none => simp [Conv.bytesToString, strOfNums]; rfl
    | some a =>
      exact run_bytesToString w a 0 cap [] (by simp [loadCells, loadCellsFrom, Sem.run_pure])
  · obtain ⟨b, off, rfl, hc⟩ := h4 hl
    exact run_convert_bytes_arg w src e hs he b off _ cap l rfl (fun i hi => hc i hi) dst hd
/-- A part of a slice. -/
theorem Bytes.slice {w : World} {a : Option Addr} {cap n : Nat} {l : List Int} (h : Bytes w (.slice a n cap) l) (i j : Nat) (hij : i ≤ j) (hj : j ≤ l.length) {t e : TypeId} (ht : P.underlying t = some (.slice e))
    (he : ∀ w, (sizeOf e).run P w = .ok 1 w) :
    ∃ a' cap', (∀ w1, (Instr.slice t (.slice a n cap) (some (.int .i64 i)) (some (.int .i64 j)) none).run P w1 = .ok (.slice a' (j - i) cap') w1) ∧ Bytes w (.slice a' (j - i) cap') ((l.take j).drop i) := by
  obtain ⟨a0, cap0, e0, h1, h2, h3, h4⟩ := h
  obtain ⟨rfl, rfl, rfl⟩ : a = a0 ∧ n = l.length ∧ cap = cap0 := by simpa using e0
  refine ⟨if cap = i then a else a.map (·.add (i * 1)), cap - i, fun w1 => ?_, if cap = i then a else a.map (·.add (i * 1)), cap - i, ?_, ?_, ?_, ?_, ?_⟩
  · have e1 : (Instr.sliceBound (.int .i64 (j : Int)) cap .sliceAcap).run P w1 = .ok j w1 := by
      simp [Instr.sliceBound, asIntOf, go_sem]; omega
    have e2 : (Instr.sliceBound (.int .i64 (i : Int)) j .sliceB).run P w1 = .ok i w1 := by
      simp [Instr.sliceBound, asIntOf, go_sem]; omega
    simp [Instr.slice, Instr.sliceBounds, run_underlying ht, e1, e2, he, go_sem]
    intro hlt; omega
  · congr 1; simp; omega
  · simp; omega
  · omega
  · intro n hn; exact h3 n (List.mem_of_mem_take (List.mem_of_mem_drop hn))
  · intro hne
    have hlen : i < j := by
      rcases Nat.lt_or_ge i j with h | h
      · exact h
      · exfalso; apply hne; apply List.eq_nil_of_length_eq_zero; simp; omega
    obtain ⟨b, off, rfl, hc⟩ := h4 (by intro h; subst h; simp at hj; omega)
    refine ⟨b, off + i, ?_, ?_⟩
    · rw [if_neg (by omega)]
      simp only [Option.map_some, Nat.mul_one]
      congr 1
      unfold Addr.add
      split <;> simp_all
    · intro k hk
      simp only [List.length_drop, List.length_take] at hk
      have := hc (i + k) (by omega)
      rw [show off + i + k = off + (i + k) by omega, this]
      congr 2
      simp only [List.getD, List.getElem?_drop, List.getElem?_take]
      rw [if_pos (by omega)]
end Go
