/- Texts of this claim, part 5: contracts of the functions that the law reaches. -/
import Derived.Lib.ItoaNum
namespace Go.Proofs.Ytijohedhbbddjaa

/-- A digit's guess q with its rest r: q times the high part of Y and r are U; q is not too small. -/
structure Dig (Y y1 y0 U u q r : Int) : Prop where
  hY : Y = y1 * 4294967296 + y0
  h1 : 2147483648 ≤ y1
  h1' : y1 < 4294967296
  h0 : 0 ≤ y0
  h0' : y0 < 4294967296
  hU : 0 ≤ U
  hU' : U < Y
  hu : 0 ≤ u
  hu' : u < 4294967296
  eq : q * y1 + r = U
  r0 : 0 ≤ r
  le : (U * 4294967296 + u) / Y ≤ q
  q1 : q ≤ 4294967297

theorem Dig.pos {Y y1 y0 U u q r : Int} (h : Dig Y y1 y0 U u q r) : 0 < Y := by have := h.hY; have := h.h1; have := h.h0; omega
theorem Dig.expand {Y y1 y0 U u q r : Int} (h : Dig Y y1 y0 U u q r) : q * Y = (U - r) * 4294967296 + q * y0 := by
  have e := h.eq
  rw [h.hY, Int.mul_add, ← Int.mul_assoc]
  generalize q * y1 = A at *
  omega
theorem Dig.start {Y y1 y0 U u : Int} (hY : Y = y1 * 4294967296 + y0) (h1 : 2147483648 ≤ y1) (h1' : y1 < 4294967296) (h0 : 0 ≤ y0) (h0' : y0 < 4294967296) (hU : 0 ≤ U) (hU' : U < Y) (hu : 0 ≤ u) (hu' : u < 4294967296) :
    Dig Y y1 y0 U u (U / y1) (U - U / y1 * y1) := by
  have hm := Int.mul_ediv_add_emod U y1
  have hr0 := Int.emod_nonneg U (show y1 ≠ 0 by omega)
  have hr1 := Int.emod_lt_of_pos U (show 0 < y1 by omega)
  have hc : y1 * (U / y1) = U / y1 * y1 := Int.mul_comm _ _
  have hq0 : 0 ≤ U / y1 := Int.ediv_nonneg hU (by omega)
  refine ⟨hY, h1, h1', h0, h0', hU, hU', hu, hu', by omega, by omega, ?_, ?_⟩
  · -- the true digit is no greater
    apply Int.le_of_lt_add_one
    apply Int.ediv_lt_of_lt_mul (by omega)
    rw [hY, Int.mul_add, ← Int.mul_assoc, Int.add_mul]
    have : 0 ≤ (U / y1 + 1) * y0 := Int.mul_nonneg (by omega) h0
    generalize (U / y1 + 1) * y0 = B at *
    generalize U / y1 * y1 = A at *
    omega
  · rcases (by omega : U / y1 ≤ 4294967297 ∨ 4294967298 ≤ U / y1) with h | h
    · exact h
    · have := Int.mul_le_mul_of_nonneg_right h (show 0 ≤ y1 by omega)
      omega
theorem Dig.no {Y y1 y0 U u q r : Int} (h : Dig Y y1 y0 U u q r) (hc : q * y0 ≤ 4294967296 * r + u) : q = (U * 4294967296 + u) / Y := by
  have e := h.expand
  have := Int.le_ediv_of_mul_le h.pos (show q * Y ≤ U * 4294967296 + u by omega)
  have := h.le
  omega
theorem Dig.yes {Y y1 y0 U u q r : Int} (h : Dig Y y1 y0 U u q r) (hc : 4294967296 ≤ q ∨ 4294967296 * r + u < q * y0) : Dig Y y1 y0 U u (q - 1) (r + y1) ∧ q - 1 ≤ 4294967296 ∧ 1 ≤ q := by
  have e := h.expand
  have hd : (U * 4294967296 + u) / Y < q := by
    rcases hc with hc | hc
    · have := Int.ediv_lt_of_lt_mul h.pos (show U * 4294967296 + u < 4294967296 * Y by have := h.hU'; have := h.hu'; omega)
      omega
    · exact Int.ediv_lt_of_lt_mul h.pos (by omega)
  have h0 : 0 ≤ (U * 4294967296 + u) / Y := Int.ediv_nonneg (by have := h.hU; have := h.hu; omega) (by have := h.pos; omega)
  have heq := h.eq
  have hq := h.q1
  refine ⟨⟨h.hY, h.h1, h.h1', h.h0, h.h0', h.hU, h.hU', h.hu, h.hu', ?_, ?_, by omega, by omega⟩, by omega, by omega⟩
  · rw [Int.sub_mul]; generalize q * y1 = A at *; omega
  · have := h.r0; have := h.h1; omega
theorem Dig.brk {Y y1 y0 U u q r : Int} (h : Dig Y y1 y0 U u q r) (hr : 4294967296 ≤ r) (hq : q ≤ 4294967296) : q = (U * 4294967296 + u) / Y := by
  have e := h.expand
  have hb : q * y0 ≤ 4294967296 * y0 := Int.mul_le_mul_of_nonneg_right hq h.h0
  have := h.h0'
  have := h.hu
  have := Int.le_ediv_of_mul_le h.pos (show q * Y ≤ U * 4294967296 + u by omega)
  have := h.le
  omega

/-- Two digits are the whole. -/
theorem two_digits {Y U u1 u0 : Int} (hY : 0 < Y) (h0 : 0 ≤ U) :
    (U * 18446744073709551616 + u1 * 4294967296 + u0) / Y = (U * 4294967296 + u1) / Y * 4294967296 + ((U * 4294967296 + u1) % Y * 4294967296 + u0) / Y ∧
    (U * 18446744073709551616 + u1 * 4294967296 + u0) % Y = ((U * 4294967296 + u1) % Y * 4294967296 + u0) % Y := by
  have e := Int.mul_ediv_add_emod (U * 4294967296 + u1) Y
  generalize hq : (U * 4294967296 + u1) / Y = q at *
  generalize hr : (U * 4294967296 + u1) % Y = r at *
  have e2 : U * 18446744073709551616 + u1 * 4294967296 + u0 = (r * 4294967296 + u0) + Y * (q * 4294967296) := by
    have : Y * (q * 4294967296) = Y * q * 4294967296 := by rw [Int.mul_assoc]
    generalize Y * q = A at *
    omega
  rw [e2]
  constructor
  · rw [Int.add_mul_ediv_left _ _ (by omega)]; omega
  · rw [Int.add_mul_emod_self_left]

end Go.Proofs.Ytijohedhbbddjaa
