/- Texts of this claim, part 17: contracts of the functions that the law reaches. -/
import Derived.Test.YtijohedhbbddjaaZ11
import Derived.Test.YtijohedhbbddjaaZ15
namespace Go.Proofs.Ytijohedhbbddjaa
open Go.RowKit


theorem rightB_parts {r c : Int} {xs : List Int} (h : rightB r c xs = true) : ∃ R C : Nat, r = R ∧ c = C ∧ R ≤ 8 ∧ C ≤ 8 ∧ xs.length = R * C ∧ xs.any clo = false := by
  unfold rightB at h
  simp only [Bool.and_eq_true, decide_eq_true_eq, Bool.not_eq_true'] at h
  obtain ⟨⟨h1, h2, h3, h4, h5⟩, h6⟩ := h
  refine ⟨r.toNat, c.toNat, by omega, by omega, by omega, by omega, ?_, h6⟩
  obtain ⟨R, rfl⟩ := Int.eq_ofNat_of_zero_le (show 0 ≤ r by omega)
  obtain ⟨C, rfl⟩ := Int.eq_ofNat_of_zero_le (show 0 ≤ c by omega)
  simp only [Int.ofNat_eq_natCast, Int.toNat_natCast] at *
  have : (xs.length : Int) = ((R * C : Nat) : Int) := by rw [h5]; simp
  omega


end Go.Proofs.Ytijohedhbbddjaa
