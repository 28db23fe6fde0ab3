/- Texts of this claim, part 31: contracts of the functions that the law reaches. -/
import Derived.Test.YtijohedhbbddjaaRows
import Derived.Test.YtijohedhbbddjaaZ0
import Derived.ProofKit
import Derived.Lib.SmallJoins
import Derived.OpenShut
namespace Go.Proofs.Ytijohedhbbddjaa
open Go.ChangeShapes Go.WideShapes Go.ChangeAt Go.RowKit Go.Joins

theorem Try.own : ownKnob Try.prog.godebug = none := by kernel_rfl
theorem Try.laidOut : laidOutB Try.prog = true := by kernel_rfl

theorem below_trodAll {H : Type} {enc : TypeId × Value → H} {P : Program} (hl : laidOutB P = true) {W W' : World} (hb : Below W.heap.size W W') :
    ∀ {ts : List TypeId} {vs : List Value} {ds : List (DataW H)} {ps : List MemPlace}, ts.all (fun t => P.readableRec t && decide (t < P.types.size)) = true →
      DataW.TrodAll enc P W 0 (fun _ => true) true ts vs ds ps → (∀ x ∈ ps, x.block < W.heap.size) → DataW.TrodAll enc P W' 0 (fun b => decide (b < W.heap.size)) true ts vs ds ps
  | [], _, _, _, _, h, _ => by obtain ⟨rfl, rfl, rfl⟩ := trodAll_nil h; exact trodAll_mk0
  | t :: ts, _, _, _, ha, h, hlt => by
    obtain ⟨v, vs, d, ds, p, q, rfl, rfl, rfl, h0, hr⟩ := trodAll_cons h
    simp only [List.all_cons, Bool.and_eq_true, decide_eq_true_eq] at ha
    exact trodAll_cons_mk (Below.trod hl ha.1.1 ha.1.2 h0 hb (fun x hx => hlt x (by simp [hx]))) (below_trodAll hl hb ha.2 hr (fun x hx => hlt x (by simp [hx])))

/-- A slice of numbers that came in, as it reads. -/
theorem qs_open {H : Type} {enc : TypeId × Value → H} {W : World} {fuel : Nat} {v : Value} {x : DataW H × List MemPlace} {t : TypeId} (ht : Try.prog.underlying t = some (.slice 25))
    (h : DataW.trod enc Try.prog W 0 (fun _ => true) true fuel t [v] = some x) : ∃ xs : List Int, QS W v xs ∧ xs.length ≤ 9223372036854775807 := by
  rcases open_ints ht Try.underlying25 (by kernel_rfl) h with ⟨hcs, hx⟩ | ⟨a, len, cap, zs, hcs, _, hl, hm, hz, hx, hcell, hwz⟩
  · simp only [List.cons.injEq, and_true] at hcs
    subst hcs
    exact ⟨[], ⟨none, 0, rfl, by simp, fun i x hi => by simp at hi⟩, by simp⟩
  · simp only [List.cons.injEq, and_true] at hcs
    subst hcs
    simp only [if_true] at hz
    unfold maxLen at hm
    have hlen : (zs.take len).length = len := by simp; omega
    refine ⟨zs.take len, ⟨some a, cap, by rw [hlen], by omega, fun i x hi => ?_⟩, by omega⟩
    have hi' : i < len := by have := (List.getElem?_eq_some_iff.1 hi).1; omega
    obtain ⟨b, off, rfl, hc⟩ := ints_at hcell (by omega)
    refine ⟨b, off, rfl, ?_⟩
    rw [hc i (by omega)]
    rw [List.getElem?_take, if_pos hi'] at hi
    simp [List.getD_eq_getElem?_getD, hi]

set_option maxRecDepth 100000 in
/- A matrix that came in by value. -/
theorem mat_open {H : Type} {enc : TypeId × Value → H} {W : World} {v : Value} {d : DataW H} {p : List MemPlace} {base : Nat} {r : Reach} (hv : Value.okWide Try.prog W r base 24 v)
    (h : DataW.Trod enc Try.prog W 0 (fun _ => true) true 24 v d p) : ∃ (R C : Int) (s : Value) (xs : List Int), v = .agg #[.int .i64 R, .int .i64 C, s] ∧ QS W s xs ∧ xs.length ≤ 9223372036854775807 := by
  obtain ⟨c0, c1, c2, y0, y1, y2, n, rfl, rfl, rfl, h0, h1, h2⟩ := open_agg3 Try.underlying24 (by kernel_rfl) (by kernel_rfl) hv h
  obtain ⟨R, e0, -, -⟩ := DataW.trod_int Try.underlying3 h0
  obtain ⟨C, e1, -, -⟩ := DataW.trod_int Try.underlying3 h1
  simp only [List.cons.injEq, and_true] at e0 e1
  subst e0; subst e1
  obtain ⟨xs, hq, hl⟩ := qs_open Try.underlying22 h2
  exact ⟨R, C, c2, xs, rfl, hq, hl⟩

end Go.Proofs.Ytijohedhbbddjaa
