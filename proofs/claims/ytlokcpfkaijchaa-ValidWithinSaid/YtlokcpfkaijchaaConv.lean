/- Contracts of the functions of package conv: each returns what the plain functions of this text say; it lays new blocks alone. -/
import Derived.Test.YtlokcpfkaijchaaRows
import Derived.Test.YtlokcpfkaijchaaLib
namespace Go.Proofs.Ytlokcpfkaijchaa
open Go.RowKit
set_option linter.unusedVariables false
set_option linter.unusedSimpArgs false
def ruleCells : Array Value := #[.int .i64 0, .func (.func 98) #[] #[], .func (.func 99) #[] #[],
  .int .i64 0, .func (.func 100) #[] #[], .func (.func 101) #[] #[],
  .int .i64 0, .func (.func 102) #[] #[], .func (.func 99) #[] #[],
  .int .i64 0, .func (.func 103) #[] #[], .func (.func 99) #[] #[],
  .int .i64 5, .func (.func 104) #[] #[], .func (.func 99) #[] #[],
  .int .i64 1, .func (.func 105) #[] #[], .func (.func 99) #[] #[],
  .int .i64 0, .func (.func 106) #[] #[], .func (.func 99) #[] #[],
  .int .i64 2, .nilFunc, .nilFunc, .int .i64 2, .nilFunc, .nilFunc, .int .i64 2, .nilFunc, .nilFunc]
set_option maxHeartbeats 400000 in
theorem conv_rules (w : World) : Calls Try.prog 97 #[] w fun e w' => e = .returned (.agg ruleCells) ∧ ∃ o, w' = w.alloc o := by
  go_enter Try.func97, Try.ntmps97
  go_wp2_with (with_reducible refine wpList_store_new rfl (.tmp 0) (.tmp 11) rfl rfl rfl (by kernel_rfl) (by simp) (by simp [Value.oneCell']) ?_)
  refine bodyPost_ret (results_cell_row rfl _ _ w.heap.size 168 _ (0, 0) _ rfl ?_ Try.underlying168 rfl (by kernel_rfl)) rfl ⟨rfl, _, rfl⟩
  exact heap_alloc_last _ _
end Go.Proofs.Ytlokcpfkaijchaa
