/- Halves by 1 of every number, in both texts. -/
import Derived.Test.YtijohedhbbddjaaQ3
namespace Go.Proofs.Ytijohedhbbddjaa
open Go.RowKit

set_option maxHeartbeats 400000 in
theorem half1_all (n : Int) (w : World) (h : -9223372036854775808 ≤ n) (h2 : n ≤ 9223372036854775807) :
    Calls Try.prog 80 #[.int .i64 n, .int .i64 1] w fun e w' => e = .returned (.int .i64 (half1 n)) ∧ w = w' := by
  have e1 := and1i
  have e2 := and1w n h (by omega)
  have e7 : ∀ x y : Int, (x == y) = decide (x = y) := fun _ _ => rfl
  go_enter Try.func80, Try.ntmps80
  go_wp2
  all_goals
    go_ret
    exact ⟨retI (by unfold half1 rnd; first | rw [if_pos (by omega)] | rw [if_neg (by omega)]), rfl⟩
set_option maxHeartbeats 400000 in
theorem rhalf1_all (n : Int) (w : World) (h : -9223372036854775808 ≤ n) (h2 : n ≤ 9223372036854775807) :
    Calls Try.prog 91 #[.int .i64 n, .int .i64 1] w fun e w' => e = .returned (.int .i64 (half1 n)) ∧ w = w' := by
  have e7 : ∀ x y : Int, (x == y) = decide (x = y) := fun _ _ => rfl
  have e8 : ∀ x : Int, (x.tmod 2 != 0) = decide (x % 2 = 1) := fun x => by
    rcases t2cases x with h | h | h <;> rw [h.1] <;> simp [h.2.2]
  rcases t2cases n with ⟨h3, h4, h5⟩ | ⟨h3, h4, h5⟩ | ⟨h3, h4, h5⟩
  all_goals
    have H5 := Lib.hid h5
    clear h5
    go_enter Try.func91, Try.ntmps91
    go_wp2
    refine wp_loop_rounds 2 ?_
    rw [rounds_succ]
    go_wp2
    rw [rounds_succ]
    go_wp2
    all_goals
      go_ret
      have h5 := H5.out
      exact ⟨retI (by unfold half1 rnd; first | rw [if_pos (by omega)] | rw [if_neg (by omega)] | (rw [if_pos (by omega)]; omega) | (rw [if_neg (by omega)]; omega)), rfl⟩

end Go.Proofs.Ytijohedhbbddjaa
