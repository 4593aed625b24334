/- Contracts of conv.Fits and conv.Bits, by the plain functions of ConvPlain. -/
import Derived.Test.YthikfifoomfjgaaGreatConv2
namespace Go.Proofs.YthikfifoomfjgaaGreat
open Go.RowKit
set_option linter.unusedVariables false
set_option linter.unusedSimpArgs false
theorem conv_same_at (k n : Int) (hk : k ≠ 1) (w : World) : Calls Tryz.prog 156 #[.int .i64 n] w fun e w' => e = .returned (.int .u64 (bitsN k n)) ∧ w = w' := by
  have e : bitsN 0 n = bitsN k n := by simp [bitsN, hk]
  rw [← e]; exact conv_same n w
set_option maxHeartbeats 4000000 in
theorem conv_fits_in (k n : Int) (hk0 : 0 ≤ k) (hk1 : k < 7) (h0 : -9223372036854775808 ≤ n) (h1 : n < 9223372036854775808) (w : World) :
    Calls Tryz.prog 82 #[.int .i64 k, .int .i64 n] w fun e w' => e = .returned (.bool (ofN k (bitsN k n) == n)) ∧ Below w.heap.size w w' := by
  have h : k = 0 ∨ k = 1 ∨ k = 2 ∨ k = 3 ∨ k = 4 ∨ k = 5 ∨ k = 6 := by omega
  have hf := fun w => find_at k hk0 (by omega) w
  have Hf := Lib.hid hf
  clear hf
  obtain ⟨b0, b1⟩ := bitsN_range k n h0 h1
  have HS := Lib.hid (fun (hk : k ≠ 1) w => conv_same_at k n hk w)
  rcases h with rfl | rfl | rfl | rfl | rfl | rfl | rfl
  all_goals
    go_enter Tryz.func82, Tryz.ntmps82
    go_wp2_with (go_at_call 112; refine (Hf.out _).mono ?_; rintro e w' ⟨rfl, hb⟩; simp only [wireV, ofV, bitsV, Int.reduceEq, Int.reduceLT, Int.reduceLE, if_true, if_false, decide_true])
    go_quiet (first
      | ((go_at_call 156; exact Calls.quiet_eq (HS.out (by decide) _)))
      | ((go_at_call 158; exact Calls.quiet_eq (rules3 n h0 h1 _)))
      | ((go_at_call 155; exact Calls.quiet_eq (rules1 _ _)))
      | ((go_at_call 157; exact Calls.quiet_eq (rules2 _ b0 b1 _)))
      | ((go_at_call 159; exact Calls.quiet_eq (rules4 _ b0 b1 _)))
      | ((go_at_call 160; exact Calls.quiet_eq (rules5 _ _)))
      | ((go_at_call 161; exact Calls.quiet_eq (rules6 _ b0 b1 _)))
      | ((go_at_call 162; exact Calls.quiet_eq (rules7 _ _)))
      | ((go_at_call 163; exact Calls.quiet_eq (rules8 _ b0 b1 _))))
    go_wp2
    go_ret
    exact ⟨rfl, below_drewN (hb.alloc hb.size _) _⟩
set_option maxHeartbeats 1000000 in
theorem conv_fits_out (k n : Int) (hk : k < 0 ∨ 7 ≤ k) (w : World) :
    Calls Tryz.prog 82 #[.int .i64 k, .int .i64 n] w fun e w' => e = .returned (.bool false) ∧ Below w.heap.size w w' := by
  by_cases ho : k < 0 ∨ 10 ≤ k
  · have Hf := Lib.hid (fun w => find_out k ho w)
    go_enter Tryz.func82, Tryz.ntmps82
    go_wp2_with (go_at_call 112; refine (Hf.out _).mono ?_; rintro e w' ⟨rfl, hb⟩)
    go_quiet (fail)
    go_wp2
    go_ret
    exact ⟨rfl, below_drewN (hb.alloc hb.size _) _⟩
  · have h : k = 7 ∨ k = 8 ∨ k = 9 := by omega
    have Hf := Lib.hid (fun w => find_at k (by omega) (by omega) w)
    clear ho hk
    rcases h with rfl | rfl | rfl
    all_goals
      go_enter Tryz.func82, Tryz.ntmps82
      go_wp2_with (go_at_call 112; refine (Hf.out _).mono ?_; rintro e w' ⟨rfl, hb⟩; simp only [wireV, ofV, bitsV, Int.reduceEq, Int.reduceLT, Int.reduceLE, if_true, if_false, decide_false])
      go_quiet (fail)
      go_wp2
      go_ret
      exact ⟨rfl, below_drewN (hb.alloc hb.size _) _⟩
theorem conv_fits (k n : Int) (h0 : -9223372036854775808 ≤ n) (h1 : n < 9223372036854775808) (w : World) :
    Calls Tryz.prog 82 #[.int .i64 k, .int .i64 n] w fun e w' => e = .returned (.bool (fitsB k n)) ∧ Below w.heap.size w w' := by
  by_cases hk : k < 0 ∨ 7 ≤ k
  · rw [show fitsB k n = false by simp [fitsB, kindIn]; omega]
    exact conv_fits_out k n hk w
  · rw [show fitsB k n = (ofN k (bitsN k n) == n) by simp [fitsB, kindIn]; omega]
    exact conv_fits_in k n (by omega) (by omega) h0 h1 w
end Go.Proofs.YthikfifoomfjgaaGreat
