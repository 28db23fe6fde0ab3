/- Texts of this claim, part 16: contracts of the functions that the law reaches. -/
import Derived.Test.YtijohedhbbddjaaZ9
import Derived.Test.YtijohedhbbddjaaZ10
namespace Go.Proofs.Ytijohedhbbddjaa

theorem tab_map (F : Int → Int) (xs : List Int) (r c : Nat) (h : xs.length = r * c) : tab (fun i k => F (xs.getD (i * c + k) 0)) c (r * c) = xs.map F := by
  apply List.ext_getElem
  · rw [tab_length, List.length_map, h]
  · intro j h1 h2
    have hj : j < xs.length := by simpa using h2
    simp only [tab, List.getElem_map, List.getElem_range]
    rw [Nat.div_add_mod' j c]
    simp [hj]
theorem tabO_any (O : Int → Bool) (xs : List Int) (r c : Nat) (h : xs.length = r * c) : tabO (fun i k => O (xs.getD (i * c + k) 0)) c (r * c) = xs.any O := by
  rw [Bool.eq_iff_iff]
  simp only [tabO, List.any_eq_true, List.mem_range, ← h]
  constructor
  · rintro ⟨j, hj, ho⟩
    rw [Nat.div_add_mod' j c] at ho
    exact ⟨xs[j], List.getElem_mem _, by simpa [hj] using ho⟩
  · rintro ⟨x, hx, ho⟩
    obtain ⟨j, hj, rfl⟩ := List.getElem_of_mem hx
    exact ⟨j, hj, by rw [Nat.div_add_mod' j c]; simpa [hj] using ho⟩

theorem mulE_one {x : Int} (h : clo x = false) : mulE x 16777216 = x := by
  have hb : -70368744177664 ≤ x ∧ x ≤ 70368744177663 := by simp [clo] at h; omega
  unfold mulE sgn ab rnd neg
  rw [cl_in hb.1 hb.2, cl_in (by omega) (by omega)]
  by_cases hx : x < 0
  · simp [hx] <;> omega
  · simp [hx] <;> omega
theorem mulQ_one {x : Int} (h : clo x = false) : mulQ x 16777216 = x := by
  have hb : -70368744177664 ≤ x ∧ x ≤ 70368744177663 := by simp [clo] at h; omega
  unfold mulQ; rw [mulE_one h, cl_in hb.1 hb.2]
theorem mulO_one {x : Int} (h : clo x = false) : mulO x 16777216 = false := by
  unfold mulO; rw [mulE_one h, h]; decide
theorem mulE_zero (x : Int) : mulE x 0 = 0 := by
  have : cl 0 = 0 := by decide
  unfold mulE rnd
  rw [this]
  have : ab 0 = 0 := by decide
  rw [this, Int.mul_zero]
  simp [neg]
theorem mulQ_zero (x : Int) : mulQ x 0 = 0 := by unfold mulQ; rw [mulE_zero]; decide
theorem mulO_zero {x : Int} (h : clo x = false) : mulO x 0 = false := by unfold mulO; rw [mulE_zero, h]; decide

theorem scale_one {xs : List Int} {r c : Nat} (h : xs.length = r * c) (hx : xs.any clo = false) : tab (fun i k => mulQ (xs.getD (i * c + k) 0) 16777216) c (r * c) = xs := by
  rw [tab_map (fun x => mulQ x 16777216) xs r c h]
  have hx' : ∀ x ∈ xs, clo x = false := by simpa using hx
  exact (List.map_congr_left (fun x hm => mulQ_one (hx' x hm))).trans (List.map_id' xs)
theorem scaleO_one {xs : List Int} {r c : Nat} (h : xs.length = r * c) (hx : xs.any clo = false) : tabO (fun i k => mulO (xs.getD (i * c + k) 0) 16777216) c (r * c) = false := by
  rw [tabO_any (fun x => mulO x 16777216) xs r c h]
  have hx' : ∀ x ∈ xs, clo x = false := by simpa using hx
  simp only [List.any_eq_false]
  exact fun x hm => by rw [mulO_one (hx' x hm)]; simp
theorem scale_zero {xs : List Int} {r c : Nat} (h : xs.length = r * c) : tab (fun i k => mulQ (xs.getD (i * c + k) 0) 0) c (r * c) = xs.map (fun _ => 0) := by
  rw [tab_map (fun x => mulQ x 0) xs r c h]
  exact List.map_congr_left (fun x _ => mulQ_zero x)
theorem scaleO_zero {xs : List Int} {r c : Nat} (h : xs.length = r * c) (hx : xs.any clo = false) : tabO (fun i k => mulO (xs.getD (i * c + k) 0) 0) c (r * c) = false := by
  rw [tabO_any (fun x => mulO x 0) xs r c h]
  have hx' : ∀ x ∈ xs, clo x = false := by simpa using hx
  simp only [List.any_eq_false]
  exact fun x hm => by rw [mulO_zero (hx' x hm)]; simp

end Go.Proofs.Ytijohedhbbddjaa
