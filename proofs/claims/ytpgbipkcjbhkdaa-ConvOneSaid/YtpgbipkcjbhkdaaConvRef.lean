/- Contracts of the reference's functions of chapter 2, by the plain functions of ConvPlain. -/
import Derived.Test.YtpgbipkcjbhkdaaConv2
namespace Go.Proofs.Ytpgbipkcjbhkdaa
open Go.RowKit
set_option linter.unusedVariables false
set_option linter.unusedSimpArgs false
theorem ret_bool {a b : Bool} (h : a = b) : Ending.returned (.bool a) = .returned (.bool b) := by rw [h]
theorem ret_ib {k : IntKind} {a b : Int} {c d : Bool} (h : a = b) (g : c = d) : Ending.returned (.tuple #[.int k a, .bool c]) = .returned (.tuple #[.int k b, .bool d]) := by rw [h, g]
set_option maxHeartbeats 400000 in
theorem ref_wire (k : Int) (w : World) : Calls Try.prog 28 #[.int .i64 k] w fun e w' => e = .returned (.int .i64 (wireOf k)) ∧ w = w' := by
  by_cases ho : k < 0 ∨ 10 ≤ k
  · have e1 : wireOf k = -1 := by simp [wireOf, ho]
    have E1 := Lib.hid e1
    clear e1
    rcases ho with ho | ho
    all_goals
      go_enter Try.func28, Try.ntmps28
      go_wp2
      go_ret
      exact ⟨ret_int E1.out.symm, rfl⟩
  · have h : k = 0 ∨ k = 1 ∨ k = 2 ∨ k = 3 ∨ k = 4 ∨ k = 5 ∨ k = 6 ∨ k = 7 ∨ k = 8 ∨ k = 9 := by omega
    clear ho
    rcases h with rfl | rfl | rfl | rfl | rfl | rfl | rfl | rfl | rfl | rfl
    all_goals
      go_enter Try.func28, Try.ntmps28
      go_wp2
      go_ret
      exact ⟨rfl, rfl⟩
set_option maxHeartbeats 400000 in
theorem ref_signed (n : Int) (h0 : 0 ≤ n) (h1 : n < 18446744073709551616) (w : World) : Calls Try.prog 32 #[.int .u64 n] w fun e w' => e = .returned (.int .i64 (wrap64 n)) ∧ w = w' := by
  by_cases h : n < 9223372036854775808
  all_goals
    go_enter Try.func32, Try.ntmps32
    go_wp2
    go_ret
    exact ⟨ret_int (by unfold wrap64; omega), rfl⟩
set_option maxHeartbeats 2000000 in
theorem ref_fits (k n : Int) (h0 : -9223372036854775808 ≤ n) (h1 : n < 9223372036854775808) (w : World) : Calls Try.prog 29 #[.int .i64 k, .int .i64 n] w fun e w' => e = .returned (.bool (rfits k n)) ∧ w = w' := by
  by_cases ho : k < 0 ∨ 7 ≤ k
  · have e1 : rfits k n = false := by unfold rfits; rw [if_neg (by omega), if_neg (by omega), if_neg (by omega), if_neg (by omega)]
    have E1 := Lib.hid e1
    clear e1
    rcases ho with ho | ho
    all_goals
      go_enter Try.func29, Try.ntmps29
      go_wp2
      go_ret
      exact ⟨ret_bool E1.out.symm, rfl⟩
  · have h : k = 0 ∨ k = 1 ∨ k = 2 ∨ k = 3 ∨ k = 4 ∨ k = 5 ∨ k = 6 := by omega
    clear ho
    rcases h with rfl | rfl | rfl | rfl | rfl | rfl | rfl
    all_goals
      go_enter Try.func29, Try.ntmps29
      go_wp2
      all_goals go_ret
      all_goals exact ⟨ret_bool (by rw [Bool.eq_iff_iff]; simp [rfits] <;> omega), rfl⟩
set_option maxHeartbeats 2000000 in
theorem ref_of_in (k n : Int) (hk0 : 0 ≤ k) (hk1 : k < 7) (h0 : 0 ≤ n) (h1 : n < 18446744073709551616) (w : World) :
    Calls Try.prog 25 #[.int .i64 k, .int .u64 n] w fun e w' => e = .returned (.tuple #[.int .i64 (ofN k n), .bool true]) ∧ w = w' := by
  have h : k = 0 ∨ k = 1 ∨ k = 2 ∨ k = 3 ∨ k = 4 ∨ k = 5 ∨ k = 6 := by omega
  rcases h with rfl | rfl | rfl | rfl | rfl | rfl | rfl
  all_goals
    go_enter Try.func25, Try.ntmps25
    go_wp2_with (go_at_call 32; refine (ref_signed n h0 h1 _).mono ?_; rintro e w' ⟨rfl, rfl⟩)
    all_goals go_ret2
    all_goals exact ⟨ret_ib (by first | rfl | (simp_all [ofN, sintOf]; done) | (simp [ofN]; unfold wrap64 wrap32; omega)) rfl, rfl⟩
set_option maxHeartbeats 2000000 in
theorem ref_of_out (k n : Int) (hk : k < 0 ∨ 7 ≤ k) (h0 : 0 ≤ n) (h1 : n < 18446744073709551616) (w : World) :
    Calls Try.prog 25 #[.int .i64 k, .int .u64 n] w fun e w' => e = .returned (.tuple #[.int .i64 0, .bool false]) ∧ w = w' := by
  rcases hk with hk | hk
  all_goals
    go_enter Try.func25, Try.ntmps25
    go_wp2
    go_ret2
    exact ⟨rfl, rfl⟩
set_option maxHeartbeats 2000000 in
theorem ref_bits_no (k n : Int) (h0 : -9223372036854775808 ≤ n) (h1 : n < 9223372036854775808) (hf : fitsB k n = false) (w : World) :
    Calls Try.prog 27 #[.int .i64 k, .int .i64 n] w fun e w' => e = .returned (.tuple #[.int .u64 0, .bool false]) ∧ w = w' := by
  have Hf := Lib.hid (fun w => ref_fits k n h0 h1 w)
  rw [rfits_eq k n h0 h1, hf] at Hf
  clear hf
  go_enter Try.func27, Try.ntmps27
  go_wp2_with (go_at_call 29; refine (Hf.out _).mono ?_; rintro e w' ⟨rfl, rfl⟩)
  go_ret2
  exact ⟨rfl, rfl⟩
set_option maxHeartbeats 2000000 in
theorem ref_bits_yes (k n : Int) (h0 : -9223372036854775808 ≤ n) (h1 : n < 9223372036854775808) (hf : fitsB k n = true) (w : World) :
    Calls Try.prog 27 #[.int .i64 k, .int .i64 n] w fun e w' => e = .returned (.tuple #[.int .u64 (bitsN k n), .bool true]) ∧ w = w' := by
  have Hf := Lib.hid (fun w => ref_fits k n h0 h1 w)
  rw [rfits_eq k n h0 h1, hf] at Hf
  clear hf
  by_cases hk : k = 1
  · subst hk
    by_cases hn : 0 ≤ n
    all_goals
      go_enter Try.func27, Try.ntmps27
      go_wp2_with (go_at_call 29; refine (Hf.out _).mono ?_; rintro e w' ⟨rfl, rfl⟩)
      go_ret2
      exact ⟨ret_ib (by simp [bitsN, sintBits]; omega) rfl, rfl⟩
  · have hb : (k == 1) = false := by simpa using hk
    have HK := Lib.hid hk
    clear hk
    by_cases hn : 0 ≤ n
    all_goals
      go_enter Try.func27, Try.ntmps27
      go_wp2_with (go_at_call 29; refine (Hf.out _).mono ?_; rintro e w' ⟨rfl, rfl⟩)
      go_ret2
      exact ⟨ret_ib (by have := HK.out; simp [bitsN, this, IntKind.wrap_u64]; omega) rfl, rfl⟩
end Go.Proofs.Ytpgbipkcjbhkdaa
