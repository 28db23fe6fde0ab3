/- The walk of alidadelaw04.shown. -/
import Derived.Test.YtijohedhbbddjaaE4
namespace Go.Proofs.Ytijohedhbbddjaa
open Go.RowKit

theorem exT : (qturn ⟨0, 0, 0, 16777216⟩ ⟨0, 16777216, 0, 0⟩).b = -16777216 ∧ (qturn ⟨0, 0, 0, 16777216⟩ ⟨0, 16777216, 0, 0⟩).c = 0 ∧ (qturn ⟨0, 0, 0, 16777216⟩ ⟨0, 16777216, 0, 0⟩).d = 0 ∧ qturnO ⟨0, 0, 0, 16777216⟩ ⟨0, 16777216, 0, 0⟩ = false :=
  ⟨by kernel_rfl, by kernel_rfl, by kernel_rfl, by kernel_rfl⟩
theorem exRi : qright ⟨70368744177663, 0, 0, 0⟩ = true := by kernel_rfl

set_option maxRecDepth 100000 in
set_option maxHeartbeats 1000000 in
theorem shown4_any (w : World) : Calls Try.prog 44 #[] w fun e w' => e = .returned (.bool true) ∧ Below w.heap.size w w' := by
  have HT : Hid (∀ w, Calls Try.prog 55 #[.agg #[.int .i64 0, .int .i64 0, .int .i64 0, .int .i64 16777216], .agg #[.int .i64 16777216, .int .i64 0, .int .i64 0]] w fun e w' =>
      e = .returned (.tuple #[.agg #[.int .i64 (-16777216), .int .i64 0, .int .i64 0], .bool false]) ∧ Below w.heap.size w w') := by
    intro w
    have h := qturn_any w ⟨0, 0, 0, 16777216⟩ 16777216 0 0
    rw [exT.1, exT.2.1, exT.2.2.1, exT.2.2.2] at h
    exact h
  have HR : Hid (∀ w, Calls Try.prog 53 #[.agg #[.int .i64 70368744177663, .int .i64 0, .int .i64 0, .int .i64 0]] w fun e w' => e = .returned (.bool true) ∧ Below w.heap.size w w') := by
    intro w
    have h := qright_any w ⟨70368744177663, 0, 0, 0⟩
    rw [exRi] at h
    exact h
  have eqv := eqV_self (-16777216) 0 0
  go_enter Try.func44, Try.ntmps44
  go_wp2_with (first | (go_at_call 55; refine (HT.out _).mono ?_; rintro e w1 ⟨rfl, hb1⟩) | (go_at_call 53; refine (HR.out _).mono ?_; rintro e w2 ⟨rfl, hb2⟩))
  go_ret
  exact ⟨rfl, below_trans2 (below_al hb1 _) hb2⟩

end Go.Proofs.Ytijohedhbbddjaa
