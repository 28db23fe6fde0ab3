/- Results of Add, Sub, Mul whatever the sizes, for the program and the reference alike. -/
import Derived.Test.YtijohedhbbddjaaA8
namespace Go.Proofs.Ytijohedhbbddjaa
open Go.RowKit

structure MRes where
  r : Int
  c : Int
  xs : List Int
  odd : Bool
  err : Int
def opR (g : Int → Int → Int) (o : Int → Int → Bool) (r c r' c' : Nat) (xs ys : List Int) : MRes := if r = r' ∧ c = c' then ⟨r, c, eachL g xs ys r c, eachO o xs ys r c, 0⟩ else ⟨0, 0, [], false, 9⟩
def mulR (r m m' c : Nat) (xs ys : List Int) : MRes := if m = m' then ⟨r, c, mulL xs ys r m c, mulLO xs ys r m c, 0⟩ else ⟨0, 0, [], false, 9⟩

/-- A matrix, an oddness and an error number are handed back. -/
def Gives (p : MRes) (w : World) (e : Ending) (w' : World) : Prop :=
  ∃ ao cap, e = .returned (.tuple #[.agg #[.int .i64 p.r, .int .i64 p.c, .slice ao p.xs.length cap], .bool p.odd, .int .i64 p.err]) ∧ QS w' (.slice ao p.xs.length cap) p.xs ∧ Below w.heap.size w w'
theorem gives_of {r c n : Nat} {xs : List Int} {odd : Bool} {err : Int} {w w' : World} {e : Ending} (h : ∃ ao cap, e = .returned (.tuple #[.agg #[.int .i64 r, .int .i64 c, .slice ao n cap], .bool odd, .int .i64 err]) ∧ w'.ownsRow w.heap.size 25 1 (.slice ao n cap) n (xs.map (Value.int .i64)) ∧ Below w.heap.size w w') :
    Gives ⟨r, c, xs, odd, err⟩ w e w' := by
  obtain ⟨ao, cap, rfl, ho, hb⟩ := h
  have hl : xs.length = n := by have := ho.1; simpa using this
  have hq := QS.of_owns ho
  subst hl
  exact ⟨ao, cap, rfl, hq, hb⟩
theorem gives_no {w w' : World} {e : Ending} (h : e = .returned (.tuple #[.agg #[.int .i64 0, .int .i64 0, .slice none 0 0], .bool false, .int .i64 9]) ∧ Below w.heap.size w w') : Gives ⟨0, 0, [], false, 9⟩ w e w' := by
  obtain ⟨rfl, hb⟩ := h
  exact ⟨none, 0, rfl, ⟨none, 0, rfl, Nat.le_refl _, fun i x hi => by simp at hi⟩, hb⟩
theorem sameB_self (r c : Int) (xs : List Int) : sameB r c xs r c xs = true := by simp [sameB]

section
variable (w : World) (r c r' c' : Nat) (v v' : Value) (xs ys : List Int) (h : MV w r c v xs) (h' : MV w r' c' v' ys)

include h h' in
theorem madd_all : Calls Try.prog 16 #[.agg #[.int .i64 r, .int .i64 c, v], .agg #[.int .i64 r', .int .i64 c', v']] w (Gives (opR addQ addO r c r' c' xs ys) w) := by
  unfold opR
  split
  · rename_i hs
    obtain ⟨rfl, rfl⟩ := hs
    exact (madd_any w r c v v' xs ys h h').mono fun e w' hr => gives_of hr
  · rename_i hs
    obtain ⟨ao, cap, rfl, -⟩ := h.qs
    obtain ⟨bo, bcap, rfl, -⟩ := h'.qs
    exact (madd_no w r c r' c' ao bo _ _ cap bcap (fun he => hs ⟨by omega, by omega⟩)).mono fun e w' hr => gives_no hr

include h h' in
theorem msub_all : Calls Try.prog 18 #[.agg #[.int .i64 r, .int .i64 c, v], .agg #[.int .i64 r', .int .i64 c', v']] w (Gives (opR subQ subO r c r' c' xs ys) w) := by
  unfold opR
  split
  · rename_i hs
    obtain ⟨rfl, rfl⟩ := hs
    exact (msub_any w r c v v' xs ys h h').mono fun e w' hr => gives_of hr
  · rename_i hs
    obtain ⟨ao, cap, rfl, -⟩ := h.qs
    obtain ⟨bo, bcap, rfl, -⟩ := h'.qs
    exact (msub_no w r c r' c' ao bo _ _ cap bcap (fun he => hs ⟨by omega, by omega⟩)).mono fun e w' hr => gives_no hr

include h h' in
theorem radd3_all : Calls Try.prog 17 #[.agg #[.int .i64 r, .int .i64 c, v], .agg #[.int .i64 r', .int .i64 c', v']] w (Gives (opR addQ addO r c r' c' xs ys) w) := by
  unfold opR
  split
  · rename_i hs
    obtain ⟨rfl, rfl⟩ := hs
    exact (radd3_any w r c v v' xs ys h h').mono fun e w' hr => gives_of hr
  · rename_i hs
    obtain ⟨ao, cap, rfl, -⟩ := h.qs
    obtain ⟨bo, bcap, rfl, -⟩ := h'.qs
    exact (radd3_no w r c r' c' ao bo _ _ cap bcap (fun he => hs ⟨by omega, by omega⟩)).mono fun e w' hr => gives_no hr

include h h' in
theorem rsub3_all : Calls Try.prog 19 #[.agg #[.int .i64 r, .int .i64 c, v], .agg #[.int .i64 r', .int .i64 c', v']] w (Gives (opR subQ subO r c r' c' xs ys) w) := by
  unfold opR
  split
  · rename_i hs
    obtain ⟨rfl, rfl⟩ := hs
    exact (rsub3_any w r c v v' xs ys h h').mono fun e w' hr => gives_of hr
  · rename_i hs
    obtain ⟨ao, cap, rfl, -⟩ := h.qs
    obtain ⟨bo, bcap, rfl, -⟩ := h'.qs
    exact (rsub3_no w r c r' c' ao bo _ _ cap bcap (fun he => hs ⟨by omega, by omega⟩)).mono fun e w' hr => gives_no hr

include h h' in
theorem mmul_all : Calls Try.prog 20 #[.agg #[.int .i64 r, .int .i64 c, v], .agg #[.int .i64 r', .int .i64 c', v']] w (Gives (mulR r c r' c' xs ys) w) := by
  unfold mulR
  split
  · rename_i hs
    subst hs
    exact (mmul_any w r c c' v v' xs ys h h').mono fun e w' hr => gives_of hr
  · rename_i hs
    exact (mmul_no w r c r' c' v v' (fun he => hs (by omega))).mono fun e w' hr => gives_no hr

include h h' in
theorem rmul3_all : Calls Try.prog 21 #[.agg #[.int .i64 r, .int .i64 c, v], .agg #[.int .i64 r', .int .i64 c', v']] w (Gives (mulR r c r' c' xs ys) w) := by
  unfold mulR
  split
  · rename_i hs
    subst hs
    exact (rmul3_any w r c c' v v' xs ys h h').mono fun e w' hr => gives_of hr
  · rename_i hs
    exact (rmul3_no w r c r' c' v v' (fun he => hs (by omega))).mono fun e w' hr => gives_no hr

end

end Go.Proofs.Ytijohedhbbddjaa
