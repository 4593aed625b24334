/- Contracts of the functions of package conv, by the plain functions of ConvPlain. -/
import Derived.Test.YthikfifoomfjgaaGreatConv
import Derived.Test.YthikfifoomfjgaaGreatConvPlain
namespace Go.Proofs.YthikfifoomfjgaaGreat
open Go.RowKit
set_option linter.unusedVariables false
set_option linter.unusedSimpArgs false
section
attribute [local go_sem] run_store
set_option maxHeartbeats 400000 in
theorem find_in (k c0 : Int) (f1 f2 : Value) (b : Bool) (hk0 : 0 ≤ k) (hk1 : k < 10) (h1 : f1.oneCell' = true) (h2 : f2.oneCell' = true)
    (hix : ∀ w, (Instr.index 160 (.agg ruleCells) (.int .i64 k)).run Tryz.prog w = .ok (.agg #[.int .i64 c0, f1, f2]) w)
    (heg : ∀ w, (eqGuard .neq 133 (.tmp 17) (.const .nilFunc) f1 .nilFunc).run Tryz.prog w = .ok () w) (hne : ∀ w, (binOp .neq 133 f1 .nilFunc).run Tryz.prog w = .ok (.bool b) w) (w : World) :
    Calls Tryz.prog 112 #[.int .i64 k] w fun e w' => e = .returned (.tuple #[.agg #[.int .i64 c0, f1, f2], .bool b]) ∧ Below w.heap.size w w' := by
  have hc := Lib.hid (fun w => Calls.mono (conv_rules w) (R' := fun e w' => e = .returned (.agg ruleCells) ∧ ∃ o, w' = w.alloc o) (by rintro e w' ⟨rfl, o, rfl⟩; exact ⟨rfl, _, rfl⟩))
  go_enter Tryz.func112, Tryz.ntmps112
  go_wp2_with (go_at_call 138; refine (hc.out _).mono ?_; rintro e w' ⟨rfl, o, rfl⟩)
  go_region
  all_goals go_wp2
  exact bodyPost_ret (v := .tuple #[.agg #[.int .i64 c0, f1, f2], .bool b]) (by simp [results, Tryz.results112, go_sem]) rfl ⟨rfl, ((((Below.refl _ _).alloc (Nat.le_refl _) _).alloc (by simp) _).alloc (by simp; omega) _).drew⟩
end
def wireV (k : Int) : Int := if k = 4 then 5 else if k = 5 then 1 else if 7 ≤ k then 2 else 0
def ofV (k : Int) : Value := if k = 0 then .func (.func 155) #[] #[] else if k = 1 then .func (.func 157) #[] #[] else if k = 2 then .func (.func 159) #[] #[] else if k = 3 then .func (.func 160) #[] #[] else if k = 4 then .func (.func 161) #[] #[] else if k = 5 then .func (.func 162) #[] #[] else if k = 6 then .func (.func 163) #[] #[] else .nilFunc
def bitsV (k : Int) : Value := if k = 1 then .func (.func 158) #[] #[] else if k < 7 then .func (.func 156) #[] #[] else .nilFunc
theorem find_at (k : Int) (hk0 : 0 ≤ k) (hk1 : k < 10) (w : World) : Calls Tryz.prog 112 #[.int .i64 k] w fun e w' => e = .returned (.tuple #[.agg #[.int .i64 (wireV k), ofV k, bitsV k], .bool (decide (k < 7))]) ∧ Below w.heap.size w w' := by
  have h : k = 0 ∨ k = 1 ∨ k = 2 ∨ k = 3 ∨ k = 4 ∨ k = 5 ∨ k = 6 ∨ k = 7 ∨ k = 8 ∨ k = 9 := by omega
  rcases h with rfl | rfl | rfl | rfl | rfl | rfl | rfl | rfl | rfl | rfl <;>
    exact find_in _ _ _ _ _ hk0 hk1 rfl rfl (fun _ => by kernel_rfl) (fun _ => by kernel_rfl) (fun _ => by kernel_rfl) w
set_option maxHeartbeats 400000 in
theorem find_out (k : Int) (hk : k < 0 ∨ 10 ≤ k) (w : World) : Calls Tryz.prog 112 #[.int .i64 k] w fun e w' => e = .returned (.tuple #[.agg #[.int .i64 (-1), .nilFunc, .nilFunc], .bool false]) ∧ Below w.heap.size w w' := by
  rcases hk with hk | hk
  all_goals
    go_enter Tryz.func112, Tryz.ntmps112
    go_wp2
    exact bodyPost_ret (v := .tuple #[.agg #[.int .i64 (-1), .nilFunc, .nilFunc], .bool false]) (by simp [results, Tryz.results112, go_sem]) rfl ⟨rfl, ((Below.refl _ _).alloc (Nat.le_refl _) _)⟩
theorem ret_int {k : IntKind} {a b : Int} (h : a = b) : Ending.returned (.int k a) = .returned (.int k b) := by rw [h]
theorem rules1 (n : Int) (w : World) : Calls Tryz.prog 155 #[.int .u64 n] w fun e w' => e = .returned (.int .i64 (ofN 0 n)) ∧ w = w' := by
  go_enter Tryz.func155, Tryz.ntmps155
  go_wp2
  go_ret
  exact ⟨rfl, rfl⟩
theorem rules2 (n : Int) (h0 : 0 ≤ n) (h1 : n < 18446744073709551616) (w : World) : Calls Tryz.prog 157 #[.int .u64 n] w fun e w' => e = .returned (.int .i64 (ofN 1 n)) ∧ w = w' := by
  go_enter Tryz.func157, Tryz.ntmps157
  go_wp2
  go_ret
  exact ⟨ret_int (sintOf_eq n h0 h1), rfl⟩
theorem rules3 (n : Int) (h0 : -9223372036854775808 ≤ n) (h1 : n < 9223372036854775808) (w : World) : Calls Tryz.prog 158 #[.int .i64 n] w fun e w' => e = .returned (.int .u64 (bitsN 1 n)) ∧ w = w' := by
  go_enter Tryz.func158, Tryz.ntmps158
  go_wp2
  go_ret
  exact ⟨ret_int (sintBits_eq n h0 h1), rfl⟩
theorem conv_same (n : Int) (w : World) : Calls Tryz.prog 156 #[.int .i64 n] w fun e w' => e = .returned (.int .u64 (bitsN 0 n)) ∧ w = w' := by
  go_enter Tryz.func156, Tryz.ntmps156
  go_wp2
  go_ret
  exact ⟨rfl, rfl⟩
theorem rules4 (n : Int) (h0 : 0 ≤ n) (h1 : n < 18446744073709551616) (w : World) : Calls Tryz.prog 159 #[.int .u64 n] w fun e w' => e = .returned (.int .i64 (ofN 2 n)) ∧ w = w' := by
  go_enter Tryz.func159, Tryz.ntmps159
  go_wp2
  go_ret
  exact ⟨rfl, rfl⟩
theorem rules5 (n : Int) (w : World) : Calls Tryz.prog 160 #[.int .u64 n] w fun e w' => e = .returned (.int .i64 (ofN 3 n)) ∧ w = w' := by
  by_cases h : n = 0
  · subst h
    go_enter Tryz.func160, Tryz.ntmps160
    go_wp2
    go_ret
    exact ⟨rfl, rfl⟩
  · have hn : (n != 0) = true := by simpa using h
    have hf : ofN 3 n = 1 := by simp [ofN, h]
    have Hf := Lib.hid hf
    clear hf h
    go_enter Tryz.func160, Tryz.ntmps160
    go_wp2
    go_ret
    exact ⟨ret_int Hf.out.symm, rfl⟩
theorem rules6 (n : Int) (h0 : 0 ≤ n) (h1 : n < 18446744073709551616) (w : World) : Calls Tryz.prog 161 #[.int .u64 n] w fun e w' => e = .returned (.int .i64 (ofN 4 n)) ∧ w = w' := by
  go_enter Tryz.func161, Tryz.ntmps161
  go_wp2
  go_ret
  exact ⟨rfl, rfl⟩
theorem rules7 (n : Int) (w : World) : Calls Tryz.prog 162 #[.int .u64 n] w fun e w' => e = .returned (.int .i64 (ofN 5 n)) ∧ w = w' := by
  go_enter Tryz.func162, Tryz.ntmps162
  go_wp2
  go_ret
  exact ⟨rfl, rfl⟩
theorem rules8 (n : Int) (h0 : 0 ≤ n) (h1 : n < 18446744073709551616) (w : World) : Calls Tryz.prog 163 #[.int .u64 n] w fun e w' => e = .returned (.int .i64 (ofN 6 n)) ∧ w = w' := by
  go_enter Tryz.func163, Tryz.ntmps163
  go_wp2
  go_ret
  exact ⟨rfl, rfl⟩
end Go.Proofs.YthikfifoomfjgaaGreat
