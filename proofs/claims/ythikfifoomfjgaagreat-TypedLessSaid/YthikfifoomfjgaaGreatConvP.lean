/- Plain facts on the numbers of kinds: what conv's functions and the reference compute, and that they agree. No program is named here. Contracts of the functions of package conv: each returns what the plain functions of this text say; it lays new blocks alone. Contracts of the functions of package conv, by the plain functions of ConvPlain. Contracts of conv.Fits and conv.Bits, by the plain functions of ConvPlain. Contract of conv.Fits, as the other texts ask for it. -/
import Derived.Laws.BitsLemmas
import Derived.Laws.Bits64
import Derived.WalkSmall
import Derived.WalkKit
import Derived.Test.YthikfifoomfjgaaGreatRows
import Derived.Test.YthikfifoomfjgaaGreatLib
import Derived.Test.YthikfifoomfjgaaGreatPAx0
namespace Go
open Go.RowKit
theorem bits_xor_i64 (a b : Int) : bits .xor .i64 a b = IntKind.i64.wrap ((BitVec.ofInt 64 a ^^^ BitVec.ofInt 64 b).toNat : Int) := by rfl
theorem bits_xor_u64 (a b : Int) : bits .xor .u64 a b = IntKind.u64.wrap ((BitVec.ofInt 64 a ^^^ BitVec.ofInt 64 b).toNat : Int) := by rfl
theorem xor_i64_zero (a : Int) (h0 : -9223372036854775808 ≤ a) (h1 : a < 9223372036854775808) : bits .xor .i64 a 0 = a := by
  rw [bits_xor_i64, show BitVec.ofInt 64 0 = 0#64 from rfl, BitVec.xor_zero, BitVec.toNat_ofInt, IntKind.wrap_i64]
  omega
theorem xor_i64_ones (a : Int) (h0 : -9223372036854775808 ≤ a) (h1 : a < 9223372036854775808) : bits .xor .i64 a (-1) = -a - 1 := by
  rw [bits_xor_i64, show BitVec.ofInt 64 (-1) = BitVec.allOnes 64 from rfl, BitVec.xor_allOnes, BitVec.toNat_not, BitVec.toNat_ofInt, IntKind.wrap_i64]
  omega
theorem xor_u64_zero (a : Int) (h0 : 0 ≤ a) (h1 : a < 18446744073709551616) : bits .xor .u64 a 0 = a := by
  rw [bits_xor_u64, show BitVec.ofInt 64 0 = 0#64 from rfl, BitVec.xor_zero, BitVec.toNat_ofInt, IntKind.wrap_u64]
  omega
theorem xor_u64_ones (a : Int) (h0 : 0 ≤ a) (h1 : a < 18446744073709551616) : bits .xor .u64 a 18446744073709551615 = 18446744073709551615 - a := by
  rw [bits_xor_u64, show BitVec.ofInt 64 18446744073709551615 = BitVec.allOnes 64 from rfl, BitVec.xor_allOnes, BitVec.toNat_not, BitVec.toNat_ofInt, IntKind.wrap_u64]
  omega
def sintOf (n : Int) : Int := if n % 2 = 0 then n / 2 else -(n / 2) - 1
theorem sintOf_eq (n : Int) (h0 : 0 ≤ n) (h1 : n < 18446744073709551616) : bits .xor .i64 (n / 2) (wrap64 (-wrap64 (bits .and .u64 n 1))) = sintOf n := by
  rw [and_one_u64 n h0 (by omega)]
  unfold sintOf
  by_cases h : n % 2 = 0
  · rw [h, if_pos rfl, show wrap64 (-wrap64 0) = 0 from (by unfold wrap64; omega), xor_i64_zero _ (by omega) (by omega)]
  · rw [if_neg h, show n % 2 = 1 by omega, show wrap64 (-wrap64 1) = -1 from (by unfold wrap64; omega), xor_i64_ones _ (by omega) (by omega)]
def sintBits (n : Int) : Int := if 0 ≤ n then 2 * n else -(2 * n) - 1
theorem sintBits_eq (n : Int) (h0 : -9223372036854775808 ≤ n) (h1 : n < 9223372036854775808) : bits .xor .u64 (IntKind.u64.wrap (wrap64 (n * 2))) (IntKind.u64.wrap (n / 9223372036854775808)) = sintBits n := by
  unfold sintBits
  have hw : 0 ≤ IntKind.u64.wrap (wrap64 (n * 2)) ∧ IntKind.u64.wrap (wrap64 (n * 2)) < 18446744073709551616 := by rw [IntKind.wrap_u64]; omega
  by_cases h : 0 ≤ n
  · rw [show n / 9223372036854775808 = 0 by omega, show IntKind.u64.wrap 0 = 0 from rfl, xor_u64_zero _ hw.1 hw.2, if_pos h, IntKind.wrap_u64]
    unfold wrap64; omega
  · rw [show n / 9223372036854775808 = -1 by omega, show IntKind.u64.wrap (-1) = 18446744073709551615 from rfl, xor_u64_ones _ hw.1 hw.2, if_neg h, IntKind.wrap_u64]
    unfold wrap64; omega
/-- The number that 64 bits are, of a kind that counts. -/
def ofN (k n : Int) : Int :=
  if k = 0 then wrap64 n else if k = 1 then sintOf n else if k = 2 then n % 4294967296 else if k = 3 then (if n = 0 then 0 else 1)
  else if k = 4 then n % 4294967296 else if k = 5 then wrap64 n else wrap64 (wrap32 (n % 4294967296))
/-- The bits of a number, of a kind that counts. -/
def bitsN (k n : Int) : Int := if k = 1 then sintBits n else IntKind.u64.wrap n
def kindIn (k : Int) : Bool := decide (0 ≤ k) && decide (k < 7)
def wireOf (k : Int) : Int := if k < 0 ∨ 10 ≤ k then -1 else if k = 4 then 5 else if k = 5 then 1 else if 7 ≤ k then 2 else 0
def fitsB (k n : Int) : Bool := kindIn k && (ofN k (bitsN k n) == n)
/-- The reference's test on a number of a kind. -/
def rfits (k n : Int) : Bool :=
  if k = 0 ∨ k = 1 ∨ k = 5 then true else if k = 2 ∨ k = 4 then decide (0 ≤ n) && decide (n ≤ 4294967295)
  else if k = 3 then decide (n = 0) || decide (n = 1) else if k = 6 then decide (-2147483648 ≤ n) && decide (n ≤ 2147483647) else false
theorem rfits_eq (k n : Int) (h0 : -9223372036854775808 ≤ n) (h1 : n < 9223372036854775808) : rfits k n = fitsB k n := by
  by_cases ho : k < 0 ∨ 7 ≤ k
  · have h2 : fitsB k n = false := by simp [fitsB, kindIn]; omega
    rw [h2]; unfold rfits
    rw [if_neg (by omega), if_neg (by omega), if_neg (by omega), if_neg (by omega)]
  · have h : k = 0 ∨ k = 1 ∨ k = 2 ∨ k = 3 ∨ k = 4 ∨ k = 5 ∨ k = 6 := by omega
    clear ho
    rw [Bool.eq_iff_iff]
    rcases h with rfl | rfl | rfl | rfl | rfl | rfl | rfl
    · simp [rfits, fitsB, kindIn, ofN, bitsN, IntKind.wrap_u64]; unfold wrap64; omega
    · simp [rfits, fitsB, kindIn, ofN, bitsN, sintOf, sintBits]; split <;> split <;> omega
    · simp [rfits, fitsB, kindIn, ofN, bitsN, IntKind.wrap_u64]; omega
    · simp [rfits, fitsB, kindIn, ofN, bitsN, IntKind.wrap_u64]; split <;> omega
    · simp [rfits, fitsB, kindIn, ofN, bitsN, IntKind.wrap_u64]; omega
    · simp [rfits, fitsB, kindIn, ofN, bitsN, IntKind.wrap_u64]; unfold wrap64; omega
    · simp [rfits, fitsB, kindIn, ofN, bitsN, IntKind.wrap_u64]; unfold wrap64 wrap32; omega
theorem ofN_range (k n : Int) (h0 : 0 ≤ n) (h1 : n < 18446744073709551616) : -9223372036854775808 ≤ ofN k n ∧ ofN k n < 9223372036854775808 := by
  unfold ofN sintOf wrap64 wrap32
  repeat' split
  all_goals omega
theorem bitsN_range (k n : Int) (h0 : -9223372036854775808 ≤ n) (h1 : n < 9223372036854775808) : 0 ≤ bitsN k n ∧ bitsN k n < 18446744073709551616 := by
  unfold bitsN sintBits
  rw [IntKind.wrap_u64]
  repeat' split
  all_goals omega
def ofP (k n : Int) : Int × Bool := if kindIn k then (ofN k n, true) else (0, false)
def bitsP (k n : Int) : Int × Bool := if fitsB k n then (bitsN k n, true) else (0, false)
theorem ofP_range (k n : Int) (h0 : 0 ≤ n) (h1 : n < 18446744073709551616) : -9223372036854775808 ≤ (ofP k n).1 ∧ (ofP k n).1 < 9223372036854775808 := by
  have := ofN_range k n h0 h1
  unfold ofP; split
  · exact this
  · exact ⟨by decide, by decide⟩
theorem bitsP_range (k n : Int) (h0 : -9223372036854775808 ≤ n) (h1 : n < 9223372036854775808) : 0 ≤ (bitsP k n).1 ∧ (bitsP k n).1 < 18446744073709551616 := by
  have := bitsN_range k n h0 h1
  unfold bitsP; split
  · exact this
  · exact ⟨by decide, by decide⟩
theorem bitsP_snd (k n : Int) : (bitsP k n).2 = fitsB k n := by
  unfold bitsP; split
  · rename_i h; exact h.symm
  · rename_i h; simp at h; exact h.symm
theorem fits_ofN (k n : Int) (hk : kindIn k = true) (h0 : 0 ≤ n) (h1 : n < 18446744073709551616) : fitsB k (ofN k n) = true := by
  have hk' : 0 ≤ k ∧ k < 7 := by simpa [kindIn] using hk
  have h : k = 0 ∨ k = 1 ∨ k = 2 ∨ k = 3 ∨ k = 4 ∨ k = 5 ∨ k = 6 := by omega
  simp only [fitsB, hk, Bool.true_and, beq_iff_eq]
  rcases h with rfl | rfl | rfl | rfl | rfl | rfl | rfl
  · simp [ofN, bitsN, IntKind.wrap_u64]; unfold wrap64; omega
  · simp [ofN, bitsN, sintOf, sintBits]; split <;> split <;> split <;> omega
  · simp [ofN, bitsN, IntKind.wrap_u64]
  · simp [ofN, bitsN, IntKind.wrap_u64]; split <;> simp
  · simp [ofN, bitsN, IntKind.wrap_u64]
  · simp [ofN, bitsN, IntKind.wrap_u64]; unfold wrap64; omega
  · simp [ofN, bitsN, IntKind.wrap_u64]; unfold wrap64 wrap32; omega
/-- A number that fits comes back. -/
theorem back_bits (k n : Int) (h : (bitsP k n).2 = true) : ofP k (bitsP k n).1 = (n, true) := by
  rw [bitsP_snd] at h
  have h' := h
  simp only [fitsB, Bool.and_eq_true, beq_iff_eq] at h'
  simp [ofP, bitsP, h, h'.1, h'.2]
/-- What bits tell fits, and comes back. -/
theorem back_of (k n : Int) (h0 : 0 ≤ n) (h1 : n < 18446744073709551616) (h : (ofP k n).2 = true) : (bitsP k (ofP k n).1).2 = true ∧ ofP k (bitsP k (ofP k n).1).1 = ofP k n := by
  have hk : kindIn k = true := by
    cases hk : kindIn k with
    | true => rfl
    | false => simp [ofP, hk] at h
  have hf := fits_ofN k n hk h0 h1
  have e : ofP k n = (ofN k n, true) := by simp [ofP, hk]
  rw [e]
  have h2 : (bitsP k (ofN k n)).2 = true := by rw [bitsP_snd]; exact hf
  exact ⟨h2, back_bits k _ h2⟩
end Go
namespace Go.Proofs.YthikfifoomfjgaaGreat
open Go.RowKit
set_option linter.unusedVariables false
set_option linter.unusedSimpArgs false
def ruleCells : Array Value := #[.int .i64 0, .func (.func 155) #[] #[], .func (.func 156) #[] #[],
  .int .i64 0, .func (.func 157) #[] #[], .func (.func 158) #[] #[],
  .int .i64 0, .func (.func 159) #[] #[], .func (.func 156) #[] #[],
  .int .i64 0, .func (.func 160) #[] #[], .func (.func 156) #[] #[],
  .int .i64 5, .func (.func 161) #[] #[], .func (.func 156) #[] #[],
  .int .i64 1, .func (.func 162) #[] #[], .func (.func 156) #[] #[],
  .int .i64 0, .func (.func 163) #[] #[], .func (.func 156) #[] #[],
  .int .i64 2, .nilFunc, .nilFunc, .int .i64 2, .nilFunc, .nilFunc, .int .i64 2, .nilFunc, .nilFunc]
set_option maxHeartbeats 400000 in
theorem conv_rules (w : World) : Calls Tryz.prog 138 #[] w fun e w' => e = .returned (.agg ruleCells) ∧ ∃ o, w' = w.alloc o := by
  go_enter Tryz.func138, Tryz.ntmps138
  go_wp2_with (with_reducible refine wpList_store_new rfl (.tmp 0) (.tmp 11) rfl rfl rfl (by kernel_rfl) (by simp) (by simp [Value.oneCell']) ?_)
  refine bodyPost_ret (results_cell_row rfl _ _ w.heap.size 160 _ (0, 0) _ rfl ?_ Tryz.underlying160 rfl (by kernel_rfl)) rfl ⟨rfl, _, rfl⟩
  exact heap_alloc_last _ _
end Go.Proofs.YthikfifoomfjgaaGreat
namespace Go.Proofs.YthikfifoomfjgaaGreat
open Go.RowKit
set_option linter.unusedVariables false
set_option linter.unusedSimpArgs false
section
attribute [local go_sem] run_store
set_option maxHeartbeats 400000 in
theorem find_in (k c0 : Int) (f1 f2 : Value) (b : Bool) (hk0 : 0 ≤ k) (hk1 : k < 10) (h1 : f1.oneCell' = true) (h2 : f2.oneCell' = true)
    (hix : ∀ w, (Instr.index 160 (.agg ruleCells) (.int .i64 k)).run Tryz.prog w = .ok (.agg #[.int .i64 c0, f1, f2]) w)
    (heg : ∀ w, (eqGuard .neq 133 (.tmp 17) (.const .nilFunc) f1 .nilFunc).run Tryz.prog w = .ok () w) (hne : ∀ w, (binOp .neq 133 f1 .nilFunc).run Tryz.prog w = .ok (.bool b) w) (w : World) :
    Calls Tryz.prog 112 #[.int .i64 k] w fun e w' => e = .returned (.tuple #[.agg #[.int .i64 c0, f1, f2], .bool b]) ∧ Below w.heap.size w w' := by
  have hc := Lib.hid (fun w => Calls.mono (conv_rules w) (R' := fun e w' => e = .returned (.agg ruleCells) ∧ ∃ o, w' = w.alloc o) (by rintro e w' ⟨rfl, o, rfl⟩; exact ⟨rfl, _, rfl⟩))
  go_enter Tryz.func112, Tryz.ntmps112
  go_wp2_with (go_at_call 138; refine (hc.out _).mono ?_; rintro e w' ⟨rfl, o, rfl⟩)
  go_region
  all_goals go_wp2
  exact bodyPost_ret (v := .tuple #[.agg #[.int .i64 c0, f1, f2], .bool b]) (by simp [results, Tryz.results112, go_sem]) rfl ⟨rfl, ((((Below.refl _ _).alloc (Nat.le_refl _) _).alloc (by simp) _).alloc (by simp; omega) _).drew⟩
end
def wireV (k : Int) : Int := if k = 4 then 5 else if k = 5 then 1 else if 7 ≤ k then 2 else 0
def ofV (k : Int) : Value := if k = 0 then .func (.func 155) #[] #[] else if k = 1 then .func (.func 157) #[] #[] else if k = 2 then .func (.func 159) #[] #[] else if k = 3 then .func (.func 160) #[] #[] else if k = 4 then .func (.func 161) #[] #[] else if k = 5 then .func (.func 162) #[] #[] else if k = 6 then .func (.func 163) #[] #[] else .nilFunc
def bitsV (k : Int) : Value := if k = 1 then .func (.func 158) #[] #[] else if k < 7 then .func (.func 156) #[] #[] else .nilFunc
theorem find_at (k : Int) (hk0 : 0 ≤ k) (hk1 : k < 10) (w : World) : Calls Tryz.prog 112 #[.int .i64 k] w fun e w' => e = .returned (.tuple #[.agg #[.int .i64 (wireV k), ofV k, bitsV k], .bool (decide (k < 7))]) ∧ Below w.heap.size w w' := by
  have h : k = 0 ∨ k = 1 ∨ k = 2 ∨ k = 3 ∨ k = 4 ∨ k = 5 ∨ k = 6 ∨ k = 7 ∨ k = 8 ∨ k = 9 := by omega
  rcases h with rfl | rfl | rfl | rfl | rfl | rfl | rfl | rfl | rfl | rfl <;>
    exact find_in _ _ _ _ _ hk0 hk1 rfl rfl (fun _ => by kernel_rfl) (fun _ => by kernel_rfl) (fun _ => by kernel_rfl) w
set_option maxHeartbeats 400000 in
theorem find_out (k : Int) (hk : k < 0 ∨ 10 ≤ k) (w : World) : Calls Tryz.prog 112 #[.int .i64 k] w fun e w' => e = .returned (.tuple #[.agg #[.int .i64 (-1), .nilFunc, .nilFunc], .bool false]) ∧ Below w.heap.size w w' := by
  rcases hk with hk | hk
  all_goals
    go_enter Tryz.func112, Tryz.ntmps112
    go_wp2
    exact bodyPost_ret (v := .tuple #[.agg #[.int .i64 (-1), .nilFunc, .nilFunc], .bool false]) (by simp [results, Tryz.results112, go_sem]) rfl ⟨rfl, ((Below.refl _ _).alloc (Nat.le_refl _) _)⟩
theorem ret_int {k : IntKind} {a b : Int} (h : a = b) : Ending.returned (.int k a) = .returned (.int k b) := by rw [h]
theorem rules1 (n : Int) (w : World) : Calls Tryz.prog 155 #[.int .u64 n] w fun e w' => e = .returned (.int .i64 (ofN 0 n)) ∧ w = w' := by
  go_enter Tryz.func155, Tryz.ntmps155
  go_wp2
  go_ret
  exact ⟨rfl, rfl⟩
theorem rules2 (n : Int) (h0 : 0 ≤ n) (h1 : n < 18446744073709551616) (w : World) : Calls Tryz.prog 157 #[.int .u64 n] w fun e w' => e = .returned (.int .i64 (ofN 1 n)) ∧ w = w' := by
  go_enter Tryz.func157, Tryz.ntmps157
  go_wp2
  go_ret
  exact ⟨ret_int (sintOf_eq n h0 h1), rfl⟩
theorem rules3 (n : Int) (h0 : -9223372036854775808 ≤ n) (h1 : n < 9223372036854775808) (w : World) : Calls Tryz.prog 158 #[.int .i64 n] w fun e w' => e = .returned (.int .u64 (bitsN 1 n)) ∧ w = w' := by
  go_enter Tryz.func158, Tryz.ntmps158
  go_wp2
  go_ret
  exact ⟨ret_int (sintBits_eq n h0 h1), rfl⟩
theorem conv_same (n : Int) (w : World) : Calls Tryz.prog 156 #[.int .i64 n] w fun e w' => e = .returned (.int .u64 (bitsN 0 n)) ∧ w = w' := by
  go_enter Tryz.func156, Tryz.ntmps156
  go_wp2
  go_ret
  exact ⟨rfl, rfl⟩
theorem rules4 (n : Int) (h0 : 0 ≤ n) (h1 : n < 18446744073709551616) (w : World) : Calls Tryz.prog 159 #[.int .u64 n] w fun e w' => e = .returned (.int .i64 (ofN 2 n)) ∧ w = w' := by
  go_enter Tryz.func159, Tryz.ntmps159
  go_wp2
  go_ret
  exact ⟨rfl, rfl⟩
theorem rules5 (n : Int) (w : World) : Calls Tryz.prog 160 #[.int .u64 n] w fun e w' => e = .returned (.int .i64 (ofN 3 n)) ∧ w = w' := by
  by_cases h : n = 0
  · subst h
    go_enter Tryz.func160, Tryz.ntmps160
    go_wp2
    go_ret
    exact ⟨rfl, rfl⟩
  · have hn : (n != 0) = true := by simpa using h
    have hf : ofN 3 n = 1 := by simp [ofN, h]
    have Hf := Lib.hid hf
    clear hf h
    go_enter Tryz.func160, Tryz.ntmps160
    go_wp2
    go_ret
    exact ⟨ret_int Hf.out.symm, rfl⟩
theorem rules6 (n : Int) (h0 : 0 ≤ n) (h1 : n < 18446744073709551616) (w : World) : Calls Tryz.prog 161 #[.int .u64 n] w fun e w' => e = .returned (.int .i64 (ofN 4 n)) ∧ w = w' := by
  go_enter Tryz.func161, Tryz.ntmps161
  go_wp2
  go_ret
  exact ⟨rfl, rfl⟩
theorem rules7 (n : Int) (w : World) : Calls Tryz.prog 162 #[.int .u64 n] w fun e w' => e = .returned (.int .i64 (ofN 5 n)) ∧ w = w' := by
  go_enter Tryz.func162, Tryz.ntmps162
  go_wp2
  go_ret
  exact ⟨rfl, rfl⟩
theorem rules8 (n : Int) (h0 : 0 ≤ n) (h1 : n < 18446744073709551616) (w : World) : Calls Tryz.prog 163 #[.int .u64 n] w fun e w' => e = .returned (.int .i64 (ofN 6 n)) ∧ w = w' := by
  go_enter Tryz.func163, Tryz.ntmps163
  go_wp2
  go_ret
  exact ⟨rfl, rfl⟩
end Go.Proofs.YthikfifoomfjgaaGreat
namespace Go.Proofs.YthikfifoomfjgaaGreat
open Go.RowKit
set_option linter.unusedVariables false
set_option linter.unusedSimpArgs false
theorem conv_same_at (k n : Int) (hk : k ≠ 1) (w : World) : Calls Tryz.prog 156 #[.int .i64 n] w fun e w' => e = .returned (.int .u64 (bitsN k n)) ∧ w = w' := by
  have e : bitsN 0 n = bitsN k n := by simp [bitsN, hk]
  rw [← e]; exact conv_same n w
set_option maxHeartbeats 4000000 in
theorem conv_fits_in (k n : Int) (hk0 : 0 ≤ k) (hk1 : k < 7) (h0 : -9223372036854775808 ≤ n) (h1 : n < 9223372036854775808) (w : World) :
    Calls Tryz.prog 82 #[.int .i64 k, .int .i64 n] w fun e w' => e = .returned (.bool (ofN k (bitsN k n) == n)) ∧ Below w.heap.size w w' := by
  have h : k = 0 ∨ k = 1 ∨ k = 2 ∨ k = 3 ∨ k = 4 ∨ k = 5 ∨ k = 6 := by omega
  have hf := fun w => find_at k hk0 (by omega) w
  have Hf := Lib.hid hf
  clear hf
  obtain ⟨b0, b1⟩ := bitsN_range k n h0 h1
  have HS := Lib.hid (fun (hk : k ≠ 1) w => conv_same_at k n hk w)
  rcases h with rfl | rfl | rfl | rfl | rfl | rfl | rfl
  all_goals
    go_enter Tryz.func82, Tryz.ntmps82
    go_wp2_with (go_at_call 112; refine (Hf.out _).mono ?_; rintro e w' ⟨rfl, hb⟩; simp only [wireV, ofV, bitsV, Int.reduceEq, Int.reduceLT, Int.reduceLE, if_true, if_false, decide_true])
    go_quiet (first
      | ((go_at_call 156; exact Calls.quiet_eq (HS.out (by decide) _)))
      | ((go_at_call 158; exact Calls.quiet_eq (rules3 n h0 h1 _)))
      | ((go_at_call 155; exact Calls.quiet_eq (rules1 _ _)))
      | ((go_at_call 157; exact Calls.quiet_eq (rules2 _ b0 b1 _)))
      | ((go_at_call 159; exact Calls.quiet_eq (rules4 _ b0 b1 _)))
      | ((go_at_call 160; exact Calls.quiet_eq (rules5 _ _)))
      | ((go_at_call 161; exact Calls.quiet_eq (rules6 _ b0 b1 _)))
      | ((go_at_call 162; exact Calls.quiet_eq (rules7 _ _)))
      | ((go_at_call 163; exact Calls.quiet_eq (rules8 _ b0 b1 _))))
    go_wp2
    go_ret
    exact ⟨rfl, below_drewN (hb.alloc hb.size _) _⟩
set_option maxHeartbeats 1000000 in
theorem conv_fits_out (k n : Int) (hk : k < 0 ∨ 7 ≤ k) (w : World) :
    Calls Tryz.prog 82 #[.int .i64 k, .int .i64 n] w fun e w' => e = .returned (.bool false) ∧ Below w.heap.size w w' := by
  by_cases ho : k < 0 ∨ 10 ≤ k
  · have Hf := Lib.hid (fun w => find_out k ho w)
    go_enter Tryz.func82, Tryz.ntmps82
    go_wp2_with (go_at_call 112; refine (Hf.out _).mono ?_; rintro e w' ⟨rfl, hb⟩)
    go_quiet (fail)
    go_wp2
    go_ret
    exact ⟨rfl, below_drewN (hb.alloc hb.size _) _⟩
  · have h : k = 7 ∨ k = 8 ∨ k = 9 := by omega
    have Hf := Lib.hid (fun w => find_at k (by omega) (by omega) w)
    clear ho hk
    rcases h with rfl | rfl | rfl
    all_goals
      go_enter Tryz.func82, Tryz.ntmps82
      go_wp2_with (go_at_call 112; refine (Hf.out _).mono ?_; rintro e w' ⟨rfl, hb⟩; simp only [wireV, ofV, bitsV, Int.reduceEq, Int.reduceLT, Int.reduceLE, if_true, if_false, decide_false])
      go_quiet (fail)
      go_wp2
      go_ret
      exact ⟨rfl, below_drewN (hb.alloc hb.size _) _⟩
theorem conv_fits (k n : Int) (h0 : -9223372036854775808 ≤ n) (h1 : n < 9223372036854775808) (w : World) :
    Calls Tryz.prog 82 #[.int .i64 k, .int .i64 n] w fun e w' => e = .returned (.bool (fitsB k n)) ∧ Below w.heap.size w w' := by
  by_cases hk : k < 0 ∨ 7 ≤ k
  · rw [show fitsB k n = false by simp [fitsB, kindIn]; omega]
    exact conv_fits_out k n hk w
  · rw [show fitsB k n = (ofN k (bitsN k n) == n) by simp [fitsB, kindIn]; omega]
    exact conv_fits_in k n (by omega) (by omega) h0 h1 w
end Go.Proofs.YthikfifoomfjgaaGreat
namespace Go.Proofs.YthikfifoomfjgaaGreat.PA
open Go.RowKit Go.Proofs.YthikfifoomfjgaaGreatW.PrintWords Go.Proofs.YthikfifoomfjgaaGreatW.PrintLast Go.Proofs.YthikfifoomfjgaaGreatW.PrintMore
set_option linter.unusedVariables false
/-- A number of 64 bits, with a sign. -/
def isI64 (n : Int) : Bool := decide (-9223372036854775808 ≤ n) && decide (n < 9223372036854775808)
def conv_Fits.f (a0 : Int) (a1 : Int) : Option (Bool) := if isI64 a1 = true then some (fitsB a0 a1) else none
theorem conv_Fits.calls (a0 : Int) (a1 : Int) (r : Bool) (w : World) (h : conv_Fits.f a0 a1 = some r) :
    Calls Tryz.prog 82 #[.int .i64 a0, .int .i64 a1] w fun e w' => e = .returned (.bool r) ∧ Below w.heap.size w w' := by
  unfold conv_Fits.f at h
  split at h
  · rename_i hu
    obtain ⟨h0, h1⟩ : -9223372036854775808 ≤ a1 ∧ a1 < 9223372036854775808 := by simpa [isI64] using hu
    obtain rfl := Option.some.inj h
    exact conv_fits a0 a1 h0 h1 w
  · cases h
end Go.Proofs.YthikfifoomfjgaaGreat.PA
