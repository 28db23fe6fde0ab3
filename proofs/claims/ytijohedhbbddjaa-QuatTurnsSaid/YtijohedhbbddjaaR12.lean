/- Whole roots as a function; both texts' Sqrt by it. -/
import Derived.Test.YtijohedhbbddjaaR11
import Derived.Test.YtijohedhbbddjaaLQfixRises
namespace Go.Proofs.Ytijohedhbbddjaa
open Go.RowKit

def isqrt : Nat → Nat
  | 0 => 0
  | n + 1 => if (isqrt n + 1) * (isqrt n + 1) ≤ n + 1 then isqrt n + 1 else isqrt n
theorem isqrt_spec (n : Nat) : isqrt n * isqrt n ≤ n ∧ n < (isqrt n + 1) * (isqrt n + 1) := by
  induction n with
  | zero => simp [isqrt]
  | succ n ih =>
    unfold isqrt
    split
    · refine ⟨by assumption, ?_⟩
      have : (isqrt n + 1) * (isqrt n + 1) < (isqrt n + 1 + 1) * (isqrt n + 1 + 1) := Nat.mul_lt_mul_of_lt_of_lt (by omega) (by omega)
      omega
    · omega
def sqrtQ (a : Int) : Int := if cl a < 0 then 0 else (isqrt (cl a * 16777216).toNat : Nat)
def sqrtO (a : Int) : Bool := decide (cl a < 0) || clo a
theorem isRt_isqrt {N : Int} (h : 0 ≤ N) : IsRt N (isqrt N.toNat : Nat) := by
  obtain ⟨h1, h2⟩ := isqrt_spec N.toNat
  refine ⟨by omega, ?_, ?_⟩
  · have : ((isqrt N.toNat * isqrt N.toNat : Nat) : Int) ≤ (N.toNat : Int) := by exact_mod_cast h1
    rw [Int.toNat_of_nonneg h] at this
    push_cast at this
    exact this
  · have : (N.toNat : Int) < (((isqrt N.toNat + 1) * (isqrt N.toNat + 1) : Nat) : Int) := by exact_mod_cast h2
    rw [Int.toNat_of_nonneg h] at this
    push_cast at this
    exact this
theorem isRt_eq {N r s : Int} (hr : IsRt N r) (hs : IsRt N s) : r = s := Int.le_antisymm (rt_mono (Int.le_refl _) hr hs) (rt_mono (Int.le_refl _) hs hr)
theorem sqrtQ_eq {a r : Int} (h0 : 0 ≤ cl a) (h : IsRt (cl a * 16777216) r) : r = sqrtQ a := by
  unfold sqrtQ
  rw [if_neg (by omega)]
  exact isRt_eq h (isRt_isqrt (by omega))
theorem sqrtQ_bd (a : Int) : 0 ≤ sqrtQ a ∧ sqrtQ a < 34359738368 := by
  unfold sqrtQ
  split
  · omega
  · have hb := cl_bd a
    obtain ⟨h1, h2⟩ := isqrt_spec (cl a * 16777216).toNat
    refine ⟨by omega, ?_⟩
    generalize isqrt (cl a * 16777216).toNat = k at *
    rcases (by omega : k < 34359738368 ∨ 34359738368 ≤ k) with h | h
    · omega
    · have := Nat.mul_le_mul h h
      omega
theorem sqrt_all (a : Int) (w : World) : Calls Try.prog 26 #[.int .i64 a] w fun e w' => e = .returned (.tuple #[.int .i64 (sqrtQ a), .bool (sqrtO a)]) ∧ w = w' :=
  (sqrt_any a w).mono fun e w' ⟨hw, he⟩ => by
    refine ⟨?_, hw⟩
    rcases he with ⟨h, rfl⟩ | ⟨h, r, rfl, hr⟩
    · exact ret2 (by unfold sqrtQ; rw [if_pos h]) (by simp [sqrtO, h])
    · exact ret2 (sqrtQ_eq h hr) (by unfold sqrtO; rw [decide_eq_false (by omega), Bool.false_or])
theorem rsqrt_all (a : Int) (w : World) : Calls Try.prog 43 #[.int .i64 a] w fun e w' => e = .returned (.tuple #[.int .i64 (sqrtQ a), .bool (sqrtO a)]) ∧ w = w' :=
  (rsqrt_any a w).mono fun e w' ⟨hw, he⟩ => by
    refine ⟨?_, hw⟩
    rcases he with ⟨h, rfl⟩ | ⟨h, r, rfl, hr⟩
    · exact ret2 (by unfold sqrtQ; rw [if_pos h]) (by simp [sqrtO, h])
    · exact ret2 (sqrtQ_eq h hr) (by unfold sqrtO; rw [decide_eq_false (by omega), Bool.false_or])

end Go.Proofs.Ytijohedhbbddjaa
