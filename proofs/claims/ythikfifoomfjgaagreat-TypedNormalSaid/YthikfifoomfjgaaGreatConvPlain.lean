/- Plain facts on the numbers of kinds: what conv's functions and the reference compute, and that they agree. No program is named here. -/
import Derived.Laws.BitsLemmas
import Derived.Laws.Bits64
import Derived.WalkSmall
import Derived.WalkKit
namespace Go
open Go.RowKit
theorem bits_xor_i64 (a b : Int) : bits .xor .i64 a b = IntKind.i64.wrap ((BitVec.ofInt 64 a ^^^ BitVec.ofInt 64 b).toNat : Int) := by rfl
theorem bits_xor_u64 (a b : Int) : bits .xor .u64 a b = IntKind.u64.wrap ((BitVec.ofInt 64 a ^^^ BitVec.ofInt 64 b).toNat : Int) := by rfl
theorem xor_i64_zero (a : Int) (h0 : -9223372036854775808 ≤ a) (h1 : a < 9223372036854775808) : bits .xor .i64 a 0 = a := by
  rw [bits_xor_i64, show BitVec.ofInt 64 0 = 0#64 from rfl, BitVec.xor_zero, BitVec.toNat_ofInt, IntKind.wrap_i64]
  omega
theorem xor_i64_ones (a : Int) (h0 : -9223372036854775808 ≤ a) (h1 : a < 9223372036854775808) : bits .xor .i64 a (-1) = -a - 1 := by
  rw [bits_xor_i64, show BitVec.ofInt 64 (-1) = BitVec.allOnes 64 from rfl, BitVec.xor_allOnes, BitVec.toNat_not, BitVec.toNat_ofInt, IntKind.wrap_i64]
  omega
theorem xor_u64_zero (a : Int) (h0 : 0 ≤ a) (h1 : a < 18446744073709551616) : bits .xor .u64 a 0 = a := by
  rw [bits_xor_u64, show BitVec.ofInt 64 0 = 0#64 from rfl, BitVec.xor_zero, BitVec.toNat_ofInt, IntKind.wrap_u64]
  omega
theorem xor_u64_ones (a : Int) (h0 : 0 ≤ a) (h1 : a < 18446744073709551616) : bits .xor .u64 a 18446744073709551615 = 18446744073709551615 - a := by
  rw [bits_xor_u64, show BitVec.ofInt 64 18446744073709551615 = BitVec.allOnes 64 from rfl, BitVec.xor_allOnes, BitVec.toNat_not, BitVec.toNat_ofInt, IntKind.wrap_u64]
  omega
def sintOf (n : Int) : Int := if n % 2 = 0 then n / 2 else -(n / 2) - 1
theorem sintOf_eq (n : Int) (h0 : 0 ≤ n) (h1 : n < 18446744073709551616) : bits .xor .i64 (n / 2) (wrap64 (-wrap64 (bits .and .u64 n 1))) = sintOf n := by
  rw [and_one_u64 n h0 (by omega)]
  unfold sintOf
  by_cases h : n % 2 = 0
  · rw [h, if_pos rfl, show wrap64 (-wrap64 0) = 0 from (by unfold wrap64; omega), xor_i64_zero _ (by omega) (by omega)]
  · rw [if_neg h, show n % 2 = 1 by omega, show wrap64 (-wrap64 1) = -1 from (by unfold wrap64; omega), xor_i64_ones _ (by omega) (by omega)]
def sintBits (n : Int) : Int := if 0 ≤ n then 2 * n else -(2 * n) - 1
theorem sintBits_eq (n : Int) (h0 : -9223372036854775808 ≤ n) (h1 : n < 9223372036854775808) : bits .xor .u64 (IntKind.u64.wrap (wrap64 (n * 2))) (IntKind.u64.wrap (n / 9223372036854775808)) = sintBits n := by
  unfold sintBits
  have hw : 0 ≤ IntKind.u64.wrap (wrap64 (n * 2)) ∧ IntKind.u64.wrap (wrap64 (n * 2)) < 18446744073709551616 := by rw [IntKind.wrap_u64]; omega
  by_cases h : 0 ≤ n
  · rw [show n / 9223372036854775808 = 0 by omega, show IntKind.u64.wrap 0 = 0 from rfl, xor_u64_zero _ hw.1 hw.2, if_pos h, IntKind.wrap_u64]
    unfold wrap64; omega
  · rw [show n / 9223372036854775808 = -1 by omega, show IntKind.u64.wrap (-1) = 18446744073709551615 from rfl, xor_u64_ones _ hw.1 hw.2, if_neg h, IntKind.wrap_u64]
    unfold wrap64; omega
/-- The number that 64 bits are, of a kind that counts. -/
def ofN (k n : Int) : Int :=
  if k = 0 then wrap64 n else if k = 1 then sintOf n else if k = 2 then n % 4294967296 else if k = 3 then (if n = 0 then 0 else 1)
  else if k = 4 then n % 4294967296 else if k = 5 then wrap64 n else wrap64 (wrap32 (n % 4294967296))
/-- The bits of a number, of a kind that counts. -/
def bitsN (k n : Int) : Int := if k = 1 then sintBits n else IntKind.u64.wrap n
def kindIn (k : Int) : Bool := decide (0 ≤ k) && decide (k < 7)
def wireOf (k : Int) : Int := if k < 0 ∨ 10 ≤ k then -1 else if k = 4 then 5 else if k = 5 then 1 else if 7 ≤ k then 2 else 0
def fitsB (k n : Int) : Bool := kindIn k && (ofN k (bitsN k n) == n)
/-- The reference's test on a number of a kind. -/
def rfits (k n : Int) : Bool :=
  if k = 0 ∨ k = 1 ∨ k = 5 then true else if k = 2 ∨ k = 4 then decide (0 ≤ n) && decide (n ≤ 4294967295)
  else if k = 3 then decide (n = 0) || decide (n = 1) else if k = 6 then decide (-2147483648 ≤ n) && decide (n ≤ 2147483647) else false
theorem rfits_eq (k n : Int) (h0 : -9223372036854775808 ≤ n) (h1 : n < 9223372036854775808) : rfits k n = fitsB k n := by
  by_cases ho : k < 0 ∨ 7 ≤ k
  · have h2 : fitsB k n = false := by simp [fitsB, kindIn]; omega
    rw [h2]; unfold rfits
    rw [if_neg (by omega), if_neg (by omega), if_neg (by omega), if_neg (by omega)]
  · have h : k = 0 ∨ k = 1 ∨ k = 2 ∨ k = 3 ∨ k = 4 ∨ k = 5 ∨ k = 6 := by omega
    clear ho
    rw [Bool.eq_iff_iff]
    rcases h with rfl | rfl | rfl | rfl | rfl | rfl | rfl
    · simp [rfits, fitsB, kindIn, ofN, bitsN, IntKind.wrap_u64]; unfold wrap64; omega
    · simp [rfits, fitsB, kindIn, ofN, bitsN, sintOf, sintBits]; split <;> split <;> omega
    · simp [rfits, fitsB, kindIn, ofN, bitsN, IntKind.wrap_u64]; omega
    · simp [rfits, fitsB, kindIn, ofN, bitsN, IntKind.wrap_u64]; split <;> omega
    · simp [rfits, fitsB, kindIn, ofN, bitsN, IntKind.wrap_u64]; omega
    · simp [rfits, fitsB, kindIn, ofN, bitsN, IntKind.wrap_u64]; unfold wrap64; omega
    · simp [rfits, fitsB, kindIn, ofN, bitsN, IntKind.wrap_u64]; unfold wrap64 wrap32; omega
theorem ofN_range (k n : Int) (h0 : 0 ≤ n) (h1 : n < 18446744073709551616) : -9223372036854775808 ≤ ofN k n ∧ ofN k n < 9223372036854775808 := by
  unfold ofN sintOf wrap64 wrap32
  repeat' split
  all_goals omega
theorem bitsN_range (k n : Int) (h0 : -9223372036854775808 ≤ n) (h1 : n < 9223372036854775808) : 0 ≤ bitsN k n ∧ bitsN k n < 18446744073709551616 := by
  unfold bitsN sintBits
  rw [IntKind.wrap_u64]
  repeat' split
  all_goals omega
def ofP (k n : Int) : Int × Bool := if kindIn k then (ofN k n, true) else (0, false)
def bitsP (k n : Int) : Int × Bool := if fitsB k n then (bitsN k n, true) else (0, false)
theorem ofP_range (k n : Int) (h0 : 0 ≤ n) (h1 : n < 18446744073709551616) : -9223372036854775808 ≤ (ofP k n).1 ∧ (ofP k n).1 < 9223372036854775808 := by
  have := ofN_range k n h0 h1
  unfold ofP; split
  · exact this
  · exact ⟨by decide, by decide⟩
theorem bitsP_range (k n : Int) (h0 : -9223372036854775808 ≤ n) (h1 : n < 9223372036854775808) : 0 ≤ (bitsP k n).1 ∧ (bitsP k n).1 < 18446744073709551616 := by
  have := bitsN_range k n h0 h1
  unfold bitsP; split
  · exact this
  · exact ⟨by decide, by decide⟩
theorem bitsP_snd (k n : Int) : (bitsP k n).2 = fitsB k n := by
  unfold bitsP; split
  · rename_i h; exact h.symm
  · rename_i h; simp at h; exact h.symm
theorem fits_ofN (k n : Int) (hk : kindIn k = true) (h0 : 0 ≤ n) (h1 : n < 18446744073709551616) : fitsB k (ofN k n) = true := by
  have hk' : 0 ≤ k ∧ k < 7 := by simpa [kindIn] using hk
  have h : k = 0 ∨ k = 1 ∨ k = 2 ∨ k = 3 ∨ k = 4 ∨ k = 5 ∨ k = 6 := by omega
  simp only [fitsB, hk, Bool.true_and, beq_iff_eq]
  rcases h with rfl | rfl | rfl | rfl | rfl | rfl | rfl
  · simp [ofN, bitsN, IntKind.wrap_u64]; unfold wrap64; omega
  · simp [ofN, bitsN, sintOf, sintBits]; split <;> split <;> split <;> omega
  · simp [ofN, bitsN, IntKind.wrap_u64]
  · simp [ofN, bitsN, IntKind.wrap_u64]; split <;> simp
  · simp [ofN, bitsN, IntKind.wrap_u64]
  · simp [ofN, bitsN, IntKind.wrap_u64]; unfold wrap64; omega
  · simp [ofN, bitsN, IntKind.wrap_u64]; unfold wrap64 wrap32; omega
/-- A number that fits comes back. -/
theorem back_bits (k n : Int) (h : (bitsP k n).2 = true) : ofP k (bitsP k n).1 = (n, true) := by
  rw [bitsP_snd] at h
  have h' := h
  simp only [fitsB, Bool.and_eq_true, beq_iff_eq] at h'
  simp [ofP, bitsP, h, h'.1, h'.2]
/-- What bits tell fits, and comes back. -/
theorem back_of (k n : Int) (h0 : 0 ≤ n) (h1 : n < 18446744073709551616) (h : (ofP k n).2 = true) : (bitsP k (ofP k n).1).2 = true ∧ ofP k (bitsP k (ofP k n).1).1 = ofP k n := by
  have hk : kindIn k = true := by
    cases hk : kindIn k with
    | true => rfl
    | false => simp [ofP, hk] at h
  have hf := fits_ofN k n hk h0 h1
  have e : ofP k n = (ofN k n, true) := by simp [ofP, hk]
  rw [e]
  have h2 : (bitsP k (ofN k n)).2 = true := by rw [bitsP_snd]; exact hf
  exact ⟨h2, back_bits k _ h2⟩
end Go
