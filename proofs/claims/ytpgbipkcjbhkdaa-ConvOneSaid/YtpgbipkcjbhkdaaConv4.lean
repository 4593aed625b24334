/- Contracts of conv.Fits and conv.Bits, by the plain functions of ConvPlain. -/
import Derived.Test.YtpgbipkcjbhkdaaConv3
namespace Go.Proofs.Ytpgbipkcjbhkdaa
open Go.RowKit
set_option linter.unusedVariables false
set_option linter.unusedSimpArgs false
theorem conv_same_at (k n : Int) (hk : k ≠ 1) (w : World) : Calls Try.prog 35 #[.int .i64 n] w fun e w' => e = .returned (.int .u64 (bitsN k n)) ∧ w = w' := by
  have e : bitsN 0 n = bitsN k n := by simp [bitsN, hk]
  rw [← e]; exact conv_same n w
set_option maxHeartbeats 4000000 in
theorem conv_fits_in (k n : Int) (hk0 : 0 ≤ k) (hk1 : k < 7) (h0 : -9223372036854775808 ≤ n) (h1 : n < 9223372036854775808) (w : World) :
    Calls Try.prog 24 #[.int .i64 k, .int .i64 n] w fun e w' => e = .returned (.bool (ofN k (bitsN k n) == n)) ∧ Below w.heap.size w w' := by
  have h : k = 0 ∨ k = 1 ∨ k = 2 ∨ k = 3 ∨ k = 4 ∨ k = 5 ∨ k = 6 := by omega
  have hf := fun w => find_at k hk0 (by omega) w
  have Hf := Lib.hid hf
  clear hf
  obtain ⟨b0, b1⟩ := bitsN_range k n h0 h1
  have HS := Lib.hid (fun (hk : k ≠ 1) w => conv_same_at k n hk w)
  rcases h with rfl | rfl | rfl | rfl | rfl | rfl | rfl
  all_goals
    go_enter Try.func24, Try.ntmps24
    go_wp2_with (go_at_call 31; refine (Hf.out _).mono ?_; rintro e w' ⟨rfl, hb⟩; simp only [wireV, ofV, bitsV, Int.reduceEq, Int.reduceLT, Int.reduceLE, if_true, if_false, decide_true])
    go_quiet (first
      | ((go_at_call 35; exact Calls.quiet_eq (HS.out (by decide) _)))
      | ((go_at_call 37; exact Calls.quiet_eq (rules3 n h0 h1 _)))
      | ((go_at_call 34; exact Calls.quiet_eq (rules1 _ _)))
      | ((go_at_call 36; exact Calls.quiet_eq (rules2 _ b0 b1 _)))
      | ((go_at_call 38; exact Calls.quiet_eq (rules4 _ b0 b1 _)))
      | ((go_at_call 39; exact Calls.quiet_eq (rules5 _ _)))
      | ((go_at_call 40; exact Calls.quiet_eq (rules6 _ b0 b1 _)))
      | ((go_at_call 41; exact Calls.quiet_eq (rules7 _ _)))
      | ((go_at_call 42; exact Calls.quiet_eq (rules8 _ b0 b1 _))))
    go_wp2
    go_ret
    exact ⟨rfl, below_drewN (hb.alloc hb.size _) _⟩
set_option maxHeartbeats 1000000 in
theorem conv_fits_out (k n : Int) (hk : k < 0 ∨ 7 ≤ k) (w : World) :
    Calls Try.prog 24 #[.int .i64 k, .int .i64 n] w fun e w' => e = .returned (.bool false) ∧ Below w.heap.size w w' := by
  by_cases ho : k < 0 ∨ 10 ≤ k
  · have Hf := Lib.hid (fun w => find_out k ho w)
    go_enter Try.func24, Try.ntmps24
    go_wp2_with (go_at_call 31; refine (Hf.out _).mono ?_; rintro e w' ⟨rfl, hb⟩)
    go_quiet (fail)
    go_wp2
    go_ret
    exact ⟨rfl, below_drewN (hb.alloc hb.size _) _⟩
  · have h : k = 7 ∨ k = 8 ∨ k = 9 := by omega
    have Hf := Lib.hid (fun w => find_at k (by omega) (by omega) w)
    clear ho hk
    rcases h with rfl | rfl | rfl
    all_goals
      go_enter Try.func24, Try.ntmps24
      go_wp2_with (go_at_call 31; refine (Hf.out _).mono ?_; rintro e w' ⟨rfl, hb⟩; simp only [wireV, ofV, bitsV, Int.reduceEq, Int.reduceLT, Int.reduceLE, if_true, if_false, decide_false])
      go_quiet (fail)
      go_wp2
      go_ret
      exact ⟨rfl, below_drewN (hb.alloc hb.size _) _⟩
theorem conv_fits (k n : Int) (h0 : -9223372036854775808 ≤ n) (h1 : n < 9223372036854775808) (w : World) :
    Calls Try.prog 24 #[.int .i64 k, .int .i64 n] w fun e w' => e = .returned (.bool (fitsB k n)) ∧ Below w.heap.size w w' := by
  by_cases hk : k < 0 ∨ 7 ≤ k
  · rw [show fitsB k n = false by simp [fitsB, kindIn]; omega]
    exact conv_fits_out k n hk w
  · rw [show fitsB k n = (ofN k (bitsN k n) == n) by simp [fitsB, kindIn]; omega]
    exact conv_fits_in k n (by omega) (by omega) h0 h1 w
set_option maxHeartbeats 1000000 in
theorem conv_bits_no (k n : Int) (h0 : -9223372036854775808 ≤ n) (h1 : n < 9223372036854775808) (hf : fitsB k n = false) (w : World) :
    Calls Try.prog 26 #[.int .i64 k, .int .i64 n] w fun e w' => e = .returned (.tuple #[.int .u64 0, .bool false]) ∧ Below w.heap.size w w' := by
  have Hf := Lib.hid (fun w => conv_fits k n h0 h1 w)
  rw [hf] at Hf
  clear hf
  go_enter Try.func26, Try.ntmps26
  go_wp2_with (go_at_call 24; refine (Hf.out _).mono ?_; rintro e w' ⟨rfl, hb⟩)
  go_ret2
  exact ⟨rfl, hb⟩
set_option maxHeartbeats 4000000 in
theorem conv_bits_yes (k n : Int) (h0 : -9223372036854775808 ≤ n) (h1 : n < 9223372036854775808) (hf : fitsB k n = true) (w : World) :
    Calls Try.prog 26 #[.int .i64 k, .int .i64 n] w fun e w' => e = .returned (.tuple #[.int .u64 (bitsN k n), .bool true]) ∧ Below w.heap.size w w' := by
  have hk : 0 ≤ k ∧ k < 7 := by simp [fitsB, kindIn] at hf; omega
  have h : k = 0 ∨ k = 1 ∨ k = 2 ∨ k = 3 ∨ k = 4 ∨ k = 5 ∨ k = 6 := by omega
  have Hf := Lib.hid (fun w => conv_fits k n h0 h1 w)
  have HF := Lib.hid (fun w => find_at k hk.1 (by omega) w)
  have HS := Lib.hid (fun (hk : k ≠ 1) w => conv_same_at k n hk w)
  rw [hf] at Hf
  clear hf
  rcases h with rfl | rfl | rfl | rfl | rfl | rfl | rfl
  all_goals
    go_enter Try.func26, Try.ntmps26
    go_wp2_with (first
      | (go_at_call 24; refine (Hf.out _).mono ?_; rintro e w' ⟨rfl, hb⟩)
      | (go_at_call 31; refine (HF.out _).mono ?_; rintro e w2 ⟨rfl, hb2⟩; simp only [wireV, ofV, bitsV, Int.reduceEq, Int.reduceLT, Int.reduceLE, if_true, if_false, decide_true])
      | (go_at_call 35; refine (HS.out (by decide) _).mono ?_; rintro e w3 ⟨rfl, rfl⟩)
      | (go_at_call 37; refine (rules3 n h0 h1 _).mono ?_; rintro e w3 ⟨rfl, rfl⟩))
    go_ret2
    exact ⟨rfl, (hb.trans (hb2.mono hb.size)).alloc (Nat.le_trans hb.size hb2.size) _⟩
theorem conv_of (k n : Int) (h0 : 0 ≤ n) (h1 : n < 18446744073709551616) (w : World) :
    Calls Try.prog 22 #[.int .i64 k, .int .u64 n] w fun e w' => e = .returned (.tuple #[.int .i64 (ofP k n).1, .bool (ofP k n).2]) ∧ Below w.heap.size w w' := by
  by_cases hk : k < 0 ∨ 7 ≤ k
  · rw [show ofP k n = (0, false) by simp [ofP, kindIn]; omega]
    exact conv_of_out k n hk w
  · rw [show ofP k n = (ofN k n, true) by simp [ofP, kindIn]; omega]
    exact conv_of_in k n (by omega) (by omega) h0 h1 w
theorem conv_bits (k n : Int) (h0 : -9223372036854775808 ≤ n) (h1 : n < 9223372036854775808) (w : World) :
    Calls Try.prog 26 #[.int .i64 k, .int .i64 n] w fun e w' => e = .returned (.tuple #[.int .u64 (bitsP k n).1, .bool (bitsP k n).2]) ∧ Below w.heap.size w w' := by
  cases hf : fitsB k n with
  | true => rw [show bitsP k n = (bitsN k n, true) by simp [bitsP, hf]]; exact conv_bits_yes k n h0 h1 hf w
  | false => rw [show bitsP k n = (0, false) by simp [bitsP, hf]]; exact conv_bits_no k n h0 h1 hf w
end Go.Proofs.Ytpgbipkcjbhkdaa
