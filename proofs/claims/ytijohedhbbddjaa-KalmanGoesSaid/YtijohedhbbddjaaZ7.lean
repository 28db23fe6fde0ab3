/- Texts of this claim, part 8: contracts of the functions that the law reaches. -/
import Derived.Test.YtijohedhbbddjaaZ2
import Derived.Test.YtijohedhbbddjaaZ5
namespace Go.Proofs.Ytijohedhbbddjaa
open Go.RowKit


theorem rnd_mono {N M : Int} (h : N ≤ M) : rnd N 16777216 ≤ rnd M 16777216 := by unfold rnd; split <;> split <;> omega
theorem cl_mono {a b : Int} (h : a ≤ b) : cl a ≤ cl b := by unfold cl; (repeat' split) <;> omega
theorem addQ_mono {a b : Int} (c : Int) (h : a ≤ b) : addQ a c ≤ addQ b c := cl_mono (by have := cl_mono h; omega)
theorem half24_mono {a b : Int} (h : a ≤ b) : half24 (cl a) ≤ half24 (cl b) := rnd_mono (cl_mono h)
theorem rnd_nonneg {N : Int} (h : 0 ≤ N) : 0 ≤ rnd N 16777216 := by unfold rnd; split <;> omega
theorem mulQ_mono {a b c : Int} (h : a ≤ b) (hc : 0 ≤ c) : mulQ a c ≤ mulQ b c := by
  refine cl_mono ?_
  have hp := cl_mono h
  have hC : 0 ≤ cl c := by unfold cl; (repeat' split) <;> omega
  unfold mulE
  generalize cl a = p at *
  generalize cl b = q at *
  generalize cl c = C at *
  have hs : ∀ x : Int, neg (sgn x C) (rnd (ab x * ab C) 16777216) = if x < 0 then - rnd (-x * C) 16777216 else rnd (x * C) 16777216 := by
    intro x
    have h1 : decide (C < 0) = false := by simp; omega
    unfold neg sgn ab
    rw [h1, if_neg (show ¬ C < 0 by omega)]
    by_cases hx : x < 0 <;> simp [hx]
  rw [hs, hs]
  by_cases h1 : p < 0
  · by_cases h2 : q < 0
    · rw [if_pos h1, if_pos h2]
      have := rnd_mono (Int.mul_le_mul_of_nonneg_right (show -q ≤ -p by omega) hC)
      omega
    · rw [if_pos h1, if_neg h2]
      have := rnd_nonneg (Int.mul_nonneg (show 0 ≤ -p by omega) hC)
      have := rnd_nonneg (Int.mul_nonneg (show 0 ≤ q by omega) hC)
      omega
  · rw [if_neg h1, if_neg (by omega)]
    exact rnd_mono (Int.mul_le_mul_of_nonneg_right hp hC)
theorem rt_mono {N M r s : Int} (h : N ≤ M) (hr : IsRt N r) (hs : IsRt M s) : r ≤ s := by
  obtain ⟨r0, r1, r2⟩ := hr
  obtain ⟨s0, s1, s2⟩ := hs
  rcases (by omega : r ≤ s ∨ s + 1 ≤ r) with h' | h'
  · exact h'
  · have := Int.mul_le_mul h' h' (by omega) (by omega)
    omega

/-- What Sqrt answers. -/
def RtOf (a s : Int) : Prop := (cl a < 0 ∧ s = 0) ∨ (0 ≤ cl a ∧ IsRt (cl a * 16777216) s)
theorem rtOf_mono {a b s t : Int} (h : a ≤ b) (hs : RtOf a s) (ht : RtOf b t) : s ≤ t := by
  have hc := cl_mono h
  rcases hs with ⟨h1, rfl⟩ | ⟨h1, hs⟩
  · rcases ht with ⟨_, rfl⟩ | ⟨_, ht⟩
    · omega
    · exact ht.1
  · rcases ht with ⟨h2, -⟩ | ⟨_, ht⟩
    · omega
    · exact rt_mono (by omega) hs ht
theorem sqrt_rt (a : Int) (w : World) : Calls Try.prog 26 #[.int .i64 a] w fun e w' => ∃ s o, e = .returned (.tuple #[.int .i64 s, .bool o]) ∧ RtOf a s ∧ w = w' :=
  (sqrt_any a w).mono fun e w' ⟨hw, h⟩ => by
    rcases h with ⟨h1, he⟩ | ⟨h1, r, he, hr⟩
    · exact ⟨0, true, he, Or.inl ⟨h1, rfl⟩, hw⟩
    · exact ⟨r, _, he, Or.inr ⟨h1, hr⟩, hw⟩


end Go.Proofs.Ytijohedhbbddjaa
