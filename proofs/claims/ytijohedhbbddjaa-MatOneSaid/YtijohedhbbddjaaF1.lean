/- An argument of the law MatOne, opened. -/
import Derived.Test.YtijohedhbbddjaaF0
namespace Go.Proofs.Ytijohedhbbddjaa
open Go.ChangeShapes Go.WideShapes Go.ChangeAt Go.RowKit Go.Joins

theorem six {l : List Value} (h : l.length = 6) : ∃ a b c d e f, l = [a, b, c, d, e, f] := by
  match l, h with
  | [a, b, c, d, e, f], _ => exact ⟨a, b, c, d, e, f, rfl⟩

set_option maxRecDepth 100000 in
theorem one_open {H : Type} {enc : TypeId × Value → H} {W : World} {v : Value} {d : DataW H} {p : List MemPlace} {base : Nat} {r : Reach} (hv : Value.okWide Try.prog W r base 43 v)
    (h : DataW.Trod enc Try.prog W 0 (fun _ => true) true 43 v d p) :
    ∃ (R C Z N : Int) (s t : Value) (xs ls : List Int), v = .agg #[.int .i64 R, .int .i64 C, s, .int .i64 Z, .int .i64 N, t] ∧ QS W s xs ∧ QS W t ls ∧ xs.length ≤ 9223372036854775807 ∧ ls.length ≤ 9223372036854775807 := by
  obtain ⟨cs, rfl, hsz⟩ := okWide_struct Try.underlying43 hv
  have hc : Try.prog.cellsOf 43 = 6 := by kernel_rfl
  have hc3 : Try.prog.cellsOf 24 = 3 := by kernel_rfl
  have hcq : Try.prog.cellsOf 25 = 1 := by kernel_rfl
  have hci : Try.prog.cellsOf 3 = 1 := by kernel_rfl
  have hcs : Try.prog.cellsOf 22 = 1 := by kernel_rfl
  obtain ⟨l⟩ := cs
  obtain ⟨c0, c1, c2, c3, c4, c5, rfl⟩ := six (show l.length = 6 by have := hsz.trans hc; simpa using this)
  obtain ⟨fuel, hf⟩ := h
  obtain ⟨y0, y1, y2, y3, n, -, -, h0, h1, h2, h3⟩ := trod_struct4 Try.underlying43 hf
  simp [Value.cells, hc3, hcq, hci, hcs] at h0 h1 h2 h3
  obtain ⟨z0, z1, z2, m, -, -, g0, g1, g2⟩ := Deep.trod_struct3 Try.underlying24 h0
  simp [hci, hcs] at g0 g1 g2
  obtain ⟨R, e0, -, -⟩ := DataW.trod_int Try.underlying3 g0
  obtain ⟨C, e1, -, -⟩ := DataW.trod_int Try.underlying3 g1
  obtain ⟨Z, e2, -, -⟩ := DataW.trod_int Try.underlying25 h1
  obtain ⟨N, e3, -, -⟩ := DataW.trod_int Try.underlying3 h2
  simp only [List.cons.injEq, and_true] at e0 e1 e2 e3
  subst e0; subst e1; subst e2; subst e3
  obtain ⟨xs, hq, hl⟩ := qs_open Try.underlying22 g2
  obtain ⟨ls, hq', hl'⟩ := qs_open Try.underlying22 h3
  exact ⟨R, C, Z, N, c2, c5, xs, ls, rfl, hq, hq', hl, hl'⟩

end Go.Proofs.Ytijohedhbbddjaa
