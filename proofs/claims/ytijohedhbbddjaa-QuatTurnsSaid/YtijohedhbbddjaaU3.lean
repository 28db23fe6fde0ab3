/- The walk of quat.terms. -/
import Derived.Test.YtijohedhbbddjaaU2
import Derived.Laws.Tables
import Derived.Laws.CopyOwn
namespace Go.Proofs.Ytijohedhbbddjaa
open Go.RowKit

def termsA : Array Value := #[.int .i64 0, .int .i64 0, .int .i64 1, .int .i64 1, .int .i64 1, .int .i64 (-1), .int .i64 2, .int .i64 2, .int .i64 (-1), .int .i64 3, .int .i64 3, .int .i64 (-1), .int .i64 0, .int .i64 1, .int .i64 1, .int .i64 1, .int .i64 0, .int .i64 1, .int .i64 2, .int .i64 3, .int .i64 1, .int .i64 3, .int .i64 2, .int .i64 (-1), .int .i64 0, .int .i64 2, .int .i64 1, .int .i64 1, .int .i64 3, .int .i64 (-1), .int .i64 2, .int .i64 0, .int .i64 1, .int .i64 3, .int .i64 1, .int .i64 1, .int .i64 0, .int .i64 3, .int .i64 1, .int .i64 1, .int .i64 2, .int .i64 1, .int .i64 2, .int .i64 1, .int .i64 (-1), .int .i64 3, .int .i64 0, .int .i64 1]

set_option maxRecDepth 100000 in
set_option maxHeartbeats 1000000 in
theorem terms_any (w : World) : Calls Try.prog 98 #[] w fun e w' => e = .returned (.agg termsA) ∧ Below w.heap.size w w' := by
  go_enter Try.func98, Try.ntmps98
  go_wp2_with (refine wpList_store_row rfl 119 (.tmp 0) (.tmp 21) rfl w.heap.size termsA rfl rfl 119 _ (heap_at _ _ _ rfl) (by kernel_rfl) (by kernel_rfl) (by kernel_rfl) ?_)
  refine bodyPost_ret (results_row rfl _ _ w.heap.size 119 termsA (0, 0) _ rfl (setRow_heap _ _ _ _ _ _ (heap_at _ _ _ rfl)) Try.underlying119 rfl (by kernel_rfl)) rfl ⟨rfl, below_setRow (below1 _ _) (Nat.le_refl _) _⟩

end Go.Proofs.Ytijohedhbbddjaa
