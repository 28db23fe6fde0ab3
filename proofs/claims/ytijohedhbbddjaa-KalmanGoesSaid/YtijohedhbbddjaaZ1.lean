/- Texts of this claim, part 2: contracts of the functions that the law reaches. -/
import Derived.Laws.MathBits
namespace Go.Proofs.Ytijohedhbbddjaa

def cl (a : Int) : Int := if 70368744177663 < a then 70368744177663 else if a < -70368744177664 then -70368744177664 else a
def clo (a : Int) : Bool := decide (70368744177663 < a) || decide (a < -70368744177664)
def addQ (a b : Int) : Int := cl (cl a + cl b)
def addO (a b : Int) : Bool := (clo a || clo b) || clo (cl a + cl b)
def subQ (a b : Int) : Int := cl (cl a - cl b)
def subO (a b : Int) : Bool := (clo a || clo b) || clo (cl a - cl b)
def ab (a : Int) : Int := if a < 0 then -a else a
/-- To the nearest, a tie to the even one. -/
def rnd (n d : Int) : Int := if d < 2 * (n % d) ∨ (2 * (n % d) = d ∧ n / d % 2 = 1) then n / d + 1 else n / d
def neg (b : Bool) (a : Int) : Int := if b = true then -a else a
def sgn (a b : Int) : Bool := decide (a < 0) != decide (b < 0)
def mulE (a b : Int) : Int := neg (sgn (cl a) (cl b)) (rnd (ab (cl a) * ab (cl b)) 16777216)
def mulQ (a b : Int) : Int := cl (mulE a b)
def mulO (a b : Int) : Bool := (clo a || clo b) || clo (mulE a b)
def divE (a b : Int) : Int := neg (sgn (cl a) (cl b)) (rnd (ab (cl a) * 16777216) (ab (cl b)))
def divQ (a b : Int) : Int := if cl b = 0 then (if 0 < cl a then 70368744177663 else if cl a < 0 then -70368744177664 else 0) else cl (divE a b)
def divO (a b : Int) : Bool := if cl b = 0 then true else (clo a || clo b) || clo (divE a b)

theorem cl_bd (a : Int) : -70368744177664 ≤ cl a ∧ cl a ≤ 70368744177663 := by unfold cl; omega
theorem ab_bd (a : Int) : 0 ≤ ab (cl a) ∧ ab (cl a) ≤ 70368744177664 := by have := cl_bd a; unfold ab; omega
theorem cl_in {a : Int} (h1 : -70368744177664 ≤ a) (h2 : a ≤ 70368744177663) : cl a = a := by unfold cl; omega
theorem cl_cl (a : Int) : cl (cl a) = cl a := cl_in (cl_bd a).1 (cl_bd a).2
theorem clo_in {a : Int} (h1 : -70368744177664 ≤ a) (h2 : a ≤ 70368744177663) : clo a = false := by unfold clo; simp; omega
theorem clo_cl (a : Int) : clo (cl a) = false := clo_in (cl_bd a).1 (cl_bd a).2
theorem clo_eq (a : Int) : clo a = (cl a != a) := by
  rw [Bool.eq_iff_iff]; unfold clo cl; simp; split <;> (try split) <;> omega

end Go.Proofs.Ytijohedhbbddjaa
