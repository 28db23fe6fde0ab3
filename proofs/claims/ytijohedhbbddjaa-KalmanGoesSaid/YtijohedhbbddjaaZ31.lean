/- Texts of this claim, part 32: contracts of the functions that the law reaches. -/
import Derived.Test.YtijohedhbbddjaaZ30
import Derived.Test.YtijohedhbbddjaaZ20
import Derived.Laws.IdiomArrays
namespace Go.Proofs.Ytijohedhbbddjaa
open Go.ChangeShapes Go.WideShapes Go.ChangeAt Go.RowKit Go.Joins

set_option maxRecDepth 100000 in
theorem q4_open {H : Type} {enc : TypeId × Value → H} {W : World} {v : Value} {d : DataW H} {p : List MemPlace} {base : Nat} {r : Reach} (hv : Value.okWide Try.prog W r base 56 v)
    (h : DataW.Trod enc Try.prog W 0 (fun _ => true) true 56 v d p) : ∃ q : Q4, v = .agg #[.int .i64 q.a, .int .i64 q.b, .int .i64 q.c, .int .i64 q.d] := by
  obtain ⟨cs, rfl, hsz, _⟩ : ∃ cs, v = .agg cs ∧ cs.size = Try.prog.cellsOf 56 ∧ Row.okWide Try.prog W r base 56 cs := by
    simpa [Value.okWide, Try.underlying56] using hv
  obtain ⟨c0, c1, c2, c3, rfl⟩ := array4 (hsz.trans (by kernel_rfl))
  obtain ⟨fuel, hf⟩ := h
  obtain ⟨y0, y1, y2, y3, n, -, h0, h1, h2, h3⟩ := trod_array4 Try.underlying56 (by kernel_rfl) hf
  obtain ⟨a, e0, -, -⟩ := DataW.trod_int Try.underlying25 h0
  obtain ⟨b, e1, -, -⟩ := DataW.trod_int Try.underlying25 h1
  obtain ⟨c, e2, -, -⟩ := DataW.trod_int Try.underlying25 h2
  obtain ⟨d, e3, -, -⟩ := DataW.trod_int Try.underlying25 h3
  simp only [List.cons.injEq, and_true] at e0 e1 e2 e3
  subst e0; subst e1; subst e2; subst e3
  exact ⟨⟨a, b, c, d⟩, rfl⟩

set_option maxRecDepth 100000 in
theorem v3_open {H : Type} {enc : TypeId × Value → H} {W : World} {v : Value} {d : DataW H} {p : List MemPlace} {base : Nat} {r : Reach} (hv : Value.okWide Try.prog W r base 65 v)
    (h : DataW.Trod enc Try.prog W 0 (fun _ => true) true 65 v d p) : ∃ a b c : Int, v = .agg #[.int .i64 a, .int .i64 b, .int .i64 c] := by
  obtain ⟨cs, rfl, hsz, _⟩ : ∃ cs, v = .agg cs ∧ cs.size = Try.prog.cellsOf 65 ∧ Row.okWide Try.prog W r base 65 cs := by
    simpa [Value.okWide, Try.underlying65] using hv
  obtain ⟨c0, c1, c2, rfl⟩ := array3 (hsz.trans (by kernel_rfl))
  obtain ⟨fuel, hf⟩ := h
  obtain ⟨y0, y1, y2, n, -, h0, h1, h2⟩ := trod_array3 Try.underlying65 (by kernel_rfl) hf
  obtain ⟨a, e0, -, -⟩ := DataW.trod_int Try.underlying25 h0
  obtain ⟨b, e1, -, -⟩ := DataW.trod_int Try.underlying25 h1
  obtain ⟨c, e2, -, -⟩ := DataW.trod_int Try.underlying25 h2
  simp only [List.cons.injEq, and_true] at e0 e1 e2
  subst e0; subst e1; subst e2
  exact ⟨a, b, c, rfl⟩

theorem wf_bd {k : Int} (h : (Lit.int .i64 k).wf = true) : -9223372036854775808 ≤ k ∧ k ≤ 9223372036854775807 := by
  simp only [Lit.wf, Bool.and_eq_true, decide_eq_true_eq] at h
  exact ⟨h.1, h.2⟩

end Go.Proofs.Ytijohedhbbddjaa

namespace Go.Proofs.Ytijohedhbbddjaa
open Go.ChangeShapes Go.WideShapes Go.ChangeAt Go.RowKit Go.Joins

theorem trod_field {H : Type} {enc : TypeId × Value → H} {P : Program} {w : World} {base : Nat} {spare : Nat → Bool} {held : Bool} {t : TypeId} {fs : Array Field} {fuel : Nat} {cs : List Value} {x : DataW H × List MemPlace}
    (ht : P.underlying t = some (.struct fs)) (h : DataW.trod enc P w base spare held fuel t cs = some x) :
    ∃ n, cs.length = P.cellsOf t ∧ ∀ (i : Nat) (f : Field), fs[i]? = some f → ∃ y, DataW.trod enc P w base spare held n f.type ((cs.drop f.offset).take (P.cellsOf f.type)) = some y := by
  obtain ⟨xs, n, -, -, hl, hlen, hf⟩ := DataW.trod_struct ht h
  refine ⟨n, hl, fun i f hi => ?_⟩
  have h1 := hf i f hi
  have h2 : i < xs.length := by rw [hlen]; exact (Array.getElem?_eq_some_iff.1 hi).1
  rw [List.getElem?_eq_getElem h2] at h1
  exact ⟨_, h1⟩
section
variable {H : Type} {enc : TypeId × Value → H} {W : World} {n : Nat}
theorem mat_cells {c0 c1 c2 : Value} {y : DataW H × List MemPlace} (h : DataW.trod enc Try.prog W 0 (fun _ => true) true n 24 [c0, c1, c2] = some y) :
    ∃ (R C : Int) (xs : List Int), c0 = .int .i64 R ∧ c1 = .int .i64 C ∧ QS W c2 xs ∧ xs.length ≤ 9223372036854775807 := by
  have hci : Try.prog.cellsOf 3 = 1 := by kernel_rfl
  have hcs : Try.prog.cellsOf 22 = 1 := by kernel_rfl
  obtain ⟨m, -, hf⟩ := trod_field Try.underlying24 h
  obtain ⟨y0, g0⟩ := hf 0 _ rfl
  obtain ⟨y1, g1⟩ := hf 1 _ rfl
  obtain ⟨y2, g2⟩ := hf 2 _ rfl
  simp [hci, hcs] at g0 g1 g2
  obtain ⟨R, e0, -, -⟩ := DataW.trod_int Try.underlying3 g0
  obtain ⟨C, e1, -, -⟩ := DataW.trod_int Try.underlying3 g1
  simp only [List.cons.injEq, and_true] at e0 e1
  obtain ⟨xs, hq, hl⟩ := qs_open Try.underlying22 g2
  exact ⟨R, C, xs, e0, e1, hq, hl⟩
theorem track_cells {c0 c1 c2 c3 c4 c5 : Value} {y : DataW H × List MemPlace} (h : DataW.trod enc Try.prog W 0 (fun _ => true) true n 71 [c0, c1, c2, c3, c4, c5] = some y) :
    ∃ (R C R' C' : Int) (xs ps : List Int), c0 = .int .i64 R ∧ c1 = .int .i64 C ∧ QS W c2 xs ∧ c3 = .int .i64 R' ∧ c4 = .int .i64 C' ∧ QS W c5 ps ∧ xs.length ≤ 9223372036854775807 ∧ ps.length ≤ 9223372036854775807 := by
  have hc3 : Try.prog.cellsOf 24 = 3 := by kernel_rfl
  obtain ⟨m, -, hf⟩ := trod_field Try.underlying71 h
  obtain ⟨y0, g0⟩ := hf 0 _ rfl
  obtain ⟨y1, g1⟩ := hf 1 _ rfl
  simp [hc3] at g0 g1
  obtain ⟨R, C, xs, e0, e1, hq, hl⟩ := mat_cells g0
  obtain ⟨R', C', ps, e2, e3, hq', hl'⟩ := mat_cells g1
  exact ⟨R, C, R', C', xs, ps, e0, e1, hq, e2, e3, hq', hl, hl'⟩
end


end Go.Proofs.Ytijohedhbbddjaa

namespace Go.Proofs.Ytijohedhbbddjaa
open Go.ChangeShapes Go.WideShapes Go.ChangeAt Go.RowKit Go.Joins

theorem list18 {l : List Value} (h : l.length = 18) : ∃ a0 a1 a2 a3 a4 a5 a6 a7 a8 a9 a10 a11 a12 a13 a14 a15 a16 a17, l = [a0, a1, a2, a3, a4, a5, a6, a7, a8, a9, a10, a11, a12, a13, a14, a15, a16, a17] := by
  match l, h with
  | [a0, a1, a2, a3, a4, a5, a6, a7, a8, a9, a10, a11, a12, a13, a14, a15, a16, a17], _ => exact ⟨a0, a1, a2, a3, a4, a5, a6, a7, a8, a9, a10, a11, a12, a13, a14, a15, a16, a17, rfl⟩
set_option maxRecDepth 100000 in
theorem goes_open {H : Type} {enc : TypeId × Value → H} {W : World} {v : Value} {d : DataW H} {p : List MemPlace} {base : Nat} {r : Reach} (hv : Value.okWide Try.prog W r base 73 v)
    (h : DataW.Trod enc Try.prog W 0 (fun _ => true) true 73 v d p) :
    ∃ (xr xc pr pc fr fc qr qc hr hc n0 n1 n2 : Int) (vx vp vf vq vh : Value) (xs ps fs qs hs : List Int),
      v = .agg #[.int .i64 xr, .int .i64 xc, vx, .int .i64 pr, .int .i64 pc, vp, .int .i64 fr, .int .i64 fc, vf, .int .i64 qr, .int .i64 qc, vq, .int .i64 hr, .int .i64 hc, vh, .int .i64 n0, .int .i64 n1, .int .i64 n2] ∧
      QS W vx xs ∧ QS W vp ps ∧ QS W vf fs ∧ QS W vq qs ∧ QS W vh hs ∧ xs.length ≤ 9223372036854775807 ∧ ps.length ≤ 9223372036854775807 ∧ fs.length ≤ 9223372036854775807 ∧ qs.length ≤ 9223372036854775807 ∧ hs.length ≤ 9223372036854775807 := by
  obtain ⟨cs, rfl, hsz⟩ := okWide_struct Try.underlying73 hv
  have hc : Try.prog.cellsOf 73 = 18 := by kernel_rfl
  have hc3 : Try.prog.cellsOf 24 = 3 := by kernel_rfl
  have hc6 : Try.prog.cellsOf 71 = 6 := by kernel_rfl
  have hca : Try.prog.cellsOf 64 = 3 := by kernel_rfl
  obtain ⟨l⟩ := cs
  obtain ⟨a0, a1, a2, a3, a4, a5, a6, a7, a8, a9, a10, a11, a12, a13, a14, a15, a16, a17, rfl⟩ := list18 (show l.length = 18 by have := hsz.trans hc; simpa using this)
  obtain ⟨fuel, hf⟩ := h
  obtain ⟨m, -, hf⟩ := trod_field Try.underlying73 hf
  obtain ⟨y0, g0⟩ := hf 0 _ rfl
  obtain ⟨y1, g1⟩ := hf 1 _ rfl
  obtain ⟨y2, g2⟩ := hf 2 _ rfl
  obtain ⟨y3, g3⟩ := hf 3 _ rfl
  obtain ⟨y4, g4⟩ := hf 4 _ rfl
  simp [Value.cells, hc3, hc6, hca] at g0 g1 g2 g3 g4
  obtain ⟨R, C, R', C', xs, ps, rfl, rfl, hx, rfl, rfl, hp, lx, lp⟩ := track_cells g0
  obtain ⟨fr, fc, fs, rfl, rfl, hq1, l1⟩ := mat_cells g1
  obtain ⟨qr, qc, qs, rfl, rfl, hq2, l2⟩ := mat_cells g2
  obtain ⟨hr, hc', hs, rfl, rfl, hq3, l3⟩ := mat_cells g3
  obtain ⟨z0, z1, z2, n, -, k0, k1, k2⟩ := trod_array3 Try.underlying64 (by kernel_rfl) g4
  obtain ⟨n0, e0, -, -⟩ := DataW.trod_int Try.underlying25 k0
  obtain ⟨n1, e1, -, -⟩ := DataW.trod_int Try.underlying25 k1
  obtain ⟨n2, e2, -, -⟩ := DataW.trod_int Try.underlying25 k2
  simp only [List.cons.injEq, and_true] at e0 e1 e2
  subst e0; subst e1; subst e2
  exact ⟨R, C, R', C', fr, fc, qr, qc, hr, hc', n0, n1, n2, a2, a5, a8, a11, a14, xs, ps, fs, qs, hs, rfl, hx, hp, hq1, hq2, hq3, lx, lp, l1, l2, l3⟩

end Go.Proofs.Ytijohedhbbddjaa
