/- Arguments that are arrays of numbers, opened. -/
import Derived.Test.YtijohedhbbddjaaF0
import Derived.Test.YtijohedhbbddjaaU4
import Derived.Laws.IdiomArrays
namespace Go.Proofs.Ytijohedhbbddjaa
open Go.ChangeShapes Go.WideShapes Go.ChangeAt Go.RowKit Go.Joins

set_option maxRecDepth 100000 in
theorem q4_open {H : Type} {enc : TypeId × Value → H} {W : World} {v : Value} {d : DataW H} {p : List MemPlace} {base : Nat} {r : Reach} (hv : Value.okWide Try.prog W r base 56 v)
    (h : DataW.Trod enc Try.prog W 0 (fun _ => true) true 56 v d p) : ∃ q : Q4, v = .agg #[.int .i64 q.a, .int .i64 q.b, .int .i64 q.c, .int .i64 q.d] := by
  obtain ⟨cs, rfl, hsz, _⟩ : ∃ cs, v = .agg cs ∧ cs.size = Try.prog.cellsOf 56 ∧ Row.okWide Try.prog W r base 56 cs := by
    simpa [Value.okWide, Try.underlying56] using hv
  obtain ⟨c0, c1, c2, c3, rfl⟩ := array4 (hsz.trans (by kernel_rfl))
  obtain ⟨fuel, hf⟩ := h
  obtain ⟨y0, y1, y2, y3, n, -, h0, h1, h2, h3⟩ := trod_array4 Try.underlying56 (by kernel_rfl) hf
  obtain ⟨a, e0, -, -⟩ := DataW.trod_int Try.underlying25 h0
  obtain ⟨b, e1, -, -⟩ := DataW.trod_int Try.underlying25 h1
  obtain ⟨c, e2, -, -⟩ := DataW.trod_int Try.underlying25 h2
  obtain ⟨d, e3, -, -⟩ := DataW.trod_int Try.underlying25 h3
  simp only [List.cons.injEq, and_true] at e0 e1 e2 e3
  subst e0; subst e1; subst e2; subst e3
  exact ⟨⟨a, b, c, d⟩, rfl⟩

set_option maxRecDepth 100000 in
theorem v3_open {H : Type} {enc : TypeId × Value → H} {W : World} {v : Value} {d : DataW H} {p : List MemPlace} {base : Nat} {r : Reach} (hv : Value.okWide Try.prog W r base 65 v)
    (h : DataW.Trod enc Try.prog W 0 (fun _ => true) true 65 v d p) : ∃ a b c : Int, v = .agg #[.int .i64 a, .int .i64 b, .int .i64 c] := by
  obtain ⟨cs, rfl, hsz, _⟩ : ∃ cs, v = .agg cs ∧ cs.size = Try.prog.cellsOf 65 ∧ Row.okWide Try.prog W r base 65 cs := by
    simpa [Value.okWide, Try.underlying65] using hv
  obtain ⟨c0, c1, c2, rfl⟩ := array3 (hsz.trans (by kernel_rfl))
  obtain ⟨fuel, hf⟩ := h
  obtain ⟨y0, y1, y2, n, -, h0, h1, h2⟩ := trod_array3 Try.underlying65 (by kernel_rfl) hf
  obtain ⟨a, e0, -, -⟩ := DataW.trod_int Try.underlying25 h0
  obtain ⟨b, e1, -, -⟩ := DataW.trod_int Try.underlying25 h1
  obtain ⟨c, e2, -, -⟩ := DataW.trod_int Try.underlying25 h2
  simp only [List.cons.injEq, and_true] at e0 e1 e2
  subst e0; subst e1; subst e2
  exact ⟨a, b, c, rfl⟩

theorem wf_bd {k : Int} (h : (Lit.int .i64 k).wf = true) : -9223372036854775808 ≤ k ∧ k ≤ 9223372036854775807 := by
  simp only [Lit.wf, Bool.and_eq_true, decide_eq_true_eq] at h
  exact ⟨h.1, h.2⟩

end Go.Proofs.Ytijohedhbbddjaa
