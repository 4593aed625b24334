/- Contracts of utf.Fine, of utf.Less and of the statements' own test, by the plain functions of UtfPlain. -/
import Derived.Test.YtpgbipkcjbhkdaaUtfFirst
namespace Go.Utf
/-- Are the bytes from one place to another one UTF-8? -/
def fineB (l : List Int) (at_ upto : Int) : Bool :=
  decide (0 ≤ at_) && decide (at_ ≤ upto) && decide (upto ≤ l.length) && decide (firstN ((l.take upto.toNat).drop at_.toNat) = (upto - at_).toNat)
end Go.Utf
namespace Go.Proofs.Ytpgbipkcjbhkdaa
open Go.RowKit
set_option linter.unusedVariables false
set_option linter.unusedSimpArgs false
theorem ret_bool {a b : Bool} (h : a = b) : Ending.returned (.bool a) = .returned (.bool b) := by rw [h]
set_option maxHeartbeats 2000000 in
theorem utf_fine (w : World) (v : Value) (l : List Int) (i j : Int) (h : Bytes w v l) (hm : l.length ≤ 140737488355328)
    (i0 : -9223372036854775808 ≤ i) (i1 : i ≤ 9223372036854775807) (j0 : -9223372036854775808 ≤ j) (j1 : j ≤ 9223372036854775807) :
    Calls Try.prog 15 #[v, .int .i64 i, .int .i64 j] w fun e w' => e = .returned (.bool (Utf.fineB l i j)) ∧ Below w.heap.size w w' := by
  have hB := h
  obtain ⟨a, cap, rfl, -, -, -, -, -⟩ := h
  by_cases c1 : 0 ≤ i
  · by_cases c2 : i ≤ j
    · by_cases c3 : j ≤ l.length
      · obtain ⟨i, rfl⟩ := Int.eq_ofNat_of_zero_le c1
        obtain ⟨j, rfl⟩ := Int.eq_ofNat_of_zero_le (Int.le_trans c1 c2)
        obtain ⟨a', cap', hsl, hb'⟩ := hB.slice (P := Try.prog) i j (by omega) (by omega) Try.underlying22 Try.sizeOf5
        have hle := Utf.firstN_le ((l.take j).drop i)
        have hf := Lib.hid (utf_first w _ _ hb' (by simp; omega))
        clear hB hb'
        have e1 : Utf.fineB l i j = ((Utf.firstN ((l.take j).drop i) : Int) == (j : Int) - i) := by
          unfold Utf.fineB
          rw [Bool.eq_iff_iff]
          simp; omega
        have E1 := Lib.hid e1
        clear e1
        generalize Utf.firstN ((l.take j).drop i) = n at *
        go_enter Try.func15, Try.ntmps15
        go_wp2_with (go_at_call 16; refine (hf.out).mono ?_; rintro e w1 ⟨rfl, b1⟩)
        go_ret
        exact ⟨ret_bool (by rw [E1.out]), b1⟩
      · have e1 : Utf.fineB l i j = false := by simp [Utf.fineB]; omega
        have E1 := Lib.hid e1
        clear e1 hB
        go_enter Try.func15, Try.ntmps15
        go_wp2
        go_ret
        exact ⟨ret_bool (by rw [E1.out]), Below.refl _ _⟩
    · have e1 : Utf.fineB l i j = false := by simp [Utf.fineB]; omega
      have E1 := Lib.hid e1
      clear e1 hB
      go_enter Try.func15, Try.ntmps15
      go_wp2
      go_ret
      exact ⟨ret_bool (by rw [E1.out]), Below.refl _ _⟩
  · have e1 : Utf.fineB l i j = false := by simp [Utf.fineB]; omega
    have E1 := Lib.hid e1
    clear e1 hB
    go_enter Try.func15, Try.ntmps15
    go_wp2
    go_ret
    exact ⟨ret_bool (by rw [E1.out]), Below.refl _ _⟩
end Go.Proofs.Ytpgbipkcjbhkdaa
