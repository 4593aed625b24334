/- Contracts of conv.Of, Wire, Fits and Bits, by the plain functions of ConvPlain. -/
import Derived.Test.YtlokcpfkaijchaaConv2
namespace Go.Proofs.Ytlokcpfkaijchaa
open Go.RowKit
set_option linter.unusedVariables false
set_option linter.unusedSimpArgs false
set_option maxHeartbeats 400000 in
theorem conv_of_in (k n : Int) (hk0 : 0 ≤ k) (hk1 : k < 7) (h0 : 0 ≤ n) (h1 : n < 18446744073709551616) (w : World) :
    Calls Try.prog 78 #[.int .i64 k, .int .u64 n] w fun e w' => e = .returned (.tuple #[.int .i64 (ofN k n), .bool true]) ∧ Below w.heap.size w w' := by
  have h : k = 0 ∨ k = 1 ∨ k = 2 ∨ k = 3 ∨ k = 4 ∨ k = 5 ∨ k = 6 := by omega
  have hf := fun w => find_at k hk0 (by omega) w
  have Hf := Lib.hid hf
  clear hf
  rcases h with rfl | rfl | rfl | rfl | rfl | rfl | rfl
  all_goals
    go_enter Try.func78, Try.ntmps78
    go_wp2_with (first
      | (go_at_call 93; refine (Hf.out _).mono ?_; rintro e w' ⟨rfl, hb⟩; simp only [wireV, ofV, bitsV, Int.reduceEq, Int.reduceLT, Int.reduceLE, if_true, if_false, decide_true])
      | (go_at_call 98; refine (rules1 n _).mono ?_; rintro e w' ⟨rfl, rfl⟩)
      | (go_at_call 100; refine (rules2 n h0 h1 _).mono ?_; rintro e w' ⟨rfl, rfl⟩)
      | (go_at_call 102; refine (rules4 n h0 h1 _).mono ?_; rintro e w' ⟨rfl, rfl⟩)
      | (go_at_call 103; refine (rules5 n _).mono ?_; rintro e w' ⟨rfl, rfl⟩)
      | (go_at_call 104; refine (rules6 n h0 h1 _).mono ?_; rintro e w' ⟨rfl, rfl⟩)
      | (go_at_call 105; refine (rules7 n _).mono ?_; rintro e w' ⟨rfl, rfl⟩)
      | (go_at_call 106; refine (rules8 n h0 h1 _).mono ?_; rintro e w' ⟨rfl, rfl⟩))
    go_ret2
    exact ⟨rfl, hb.alloc hb.size _⟩
set_option maxHeartbeats 400000 in
theorem conv_of_out (k n : Int) (hk : k < 0 ∨ 7 ≤ k) (w : World) :
    Calls Try.prog 78 #[.int .i64 k, .int .u64 n] w fun e w' => e = .returned (.tuple #[.int .i64 0, .bool false]) ∧ Below w.heap.size w w' := by
  by_cases ho : k < 0 ∨ 10 ≤ k
  · have Hf := Lib.hid (fun w => find_out k ho w)
    go_enter Try.func78, Try.ntmps78
    go_wp2_with (go_at_call 93; refine (Hf.out _).mono ?_; rintro e w' ⟨rfl, hb⟩)
    go_ret2
    exact ⟨rfl, hb.alloc hb.size _⟩
  · have h : k = 7 ∨ k = 8 ∨ k = 9 := by omega
    have Hf := Lib.hid (fun w => find_at k (by omega) (by omega) w)
    clear ho hk
    rcases h with rfl | rfl | rfl
    all_goals
      go_enter Try.func78, Try.ntmps78
      go_wp2_with (go_at_call 93; refine (Hf.out _).mono ?_; rintro e w' ⟨rfl, hb⟩; simp only [wireV, ofV, bitsV, Int.reduceEq, Int.reduceLT, Int.reduceLE, if_true, if_false, decide_false])
      go_ret2
      exact ⟨rfl, hb.alloc hb.size _⟩
set_option maxHeartbeats 400000 in
theorem conv_wire (k : Int) (w : World) :
    Calls Try.prog 76 #[.int .i64 k] w fun e w' => e = .returned (.int .i64 (wireOf k)) ∧ Below w.heap.size w w' := by
  by_cases ho : k < 0 ∨ 10 ≤ k
  · have Hf := Lib.hid (fun w => find_out k ho w)
    have e1 : wireOf k = -1 := by simp [wireOf, ho]
    have E1 := Lib.hid e1
    clear e1 ho
    go_enter Try.func76, Try.ntmps76
    go_wp2_with (go_at_call 93; refine (Hf.out _).mono ?_; rintro e w' ⟨rfl, hb⟩)
    go_ret
    exact ⟨ret_int E1.out.symm, hb.alloc hb.size _⟩
  · have h : k = 0 ∨ k = 1 ∨ k = 2 ∨ k = 3 ∨ k = 4 ∨ k = 5 ∨ k = 6 ∨ k = 7 ∨ k = 8 ∨ k = 9 := by omega
    have Hf := Lib.hid (fun w => find_at k (by omega) (by omega) w)
    clear ho
    rcases h with rfl | rfl | rfl | rfl | rfl | rfl | rfl | rfl | rfl | rfl
    all_goals
      go_enter Try.func76, Try.ntmps76
      go_wp2_with (go_at_call 93; refine (Hf.out _).mono ?_; rintro e w' ⟨rfl, hb⟩; simp only [wireV, ofV, bitsV, Int.reduceEq, Int.reduceLT, Int.reduceLE, if_true, if_false, decide_false, decide_true])
      go_ret
      exact ⟨rfl, hb.alloc hb.size _⟩
end Go.Proofs.Ytlokcpfkaijchaa
