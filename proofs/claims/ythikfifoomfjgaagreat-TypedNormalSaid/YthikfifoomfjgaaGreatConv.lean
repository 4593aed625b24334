/- Contracts of the functions of package conv: each returns what the plain functions of this text say; it lays new blocks alone. -/
import Derived.Test.YthikfifoomfjgaaGreatRows
import Derived.Test.YthikfifoomfjgaaGreatLib
namespace Go.Proofs.YthikfifoomfjgaaGreat
open Go.RowKit
set_option linter.unusedVariables false
set_option linter.unusedSimpArgs false
def ruleCells : Array Value := #[.int .i64 0, .func (.func 155) #[] #[], .func (.func 156) #[] #[],
  .int .i64 0, .func (.func 157) #[] #[], .func (.func 158) #[] #[],
  .int .i64 0, .func (.func 159) #[] #[], .func (.func 156) #[] #[],
  .int .i64 0, .func (.func 160) #[] #[], .func (.func 156) #[] #[],
  .int .i64 5, .func (.func 161) #[] #[], .func (.func 156) #[] #[],
  .int .i64 1, .func (.func 162) #[] #[], .func (.func 156) #[] #[],
  .int .i64 0, .func (.func 163) #[] #[], .func (.func 156) #[] #[],
  .int .i64 2, .nilFunc, .nilFunc, .int .i64 2, .nilFunc, .nilFunc, .int .i64 2, .nilFunc, .nilFunc]
set_option maxHeartbeats 400000 in
theorem conv_rules (w : World) : Calls Tryz.prog 138 #[] w fun e w' => e = .returned (.agg ruleCells) ∧ ∃ o, w' = w.alloc o := by
  go_enter Tryz.func138, Tryz.ntmps138
  go_wp2_with (with_reducible refine wpList_store_new rfl (.tmp 0) (.tmp 11) rfl rfl rfl (by kernel_rfl) (by simp) (by simp [Value.oneCell']) ?_)
  refine bodyPost_ret (results_cell_row rfl _ _ w.heap.size 160 _ (0, 0) _ rfl ?_ Tryz.underlying160 rfl (by kernel_rfl)) rfl ⟨rfl, _, rfl⟩
  exact heap_alloc_last _ _
end Go.Proofs.YthikfifoomfjgaaGreat
