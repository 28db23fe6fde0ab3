/- Texts of this claim, part 18: contracts of the functions that the law reaches. -/
import Derived.Test.YtijohedhbbddjaaZ14
import Derived.Test.YtijohedhbbddjaaZ16
namespace Go.Proofs.Ytijohedhbbddjaa
open Go.RowKit

def scaleR (r c : Nat) (xs : List Int) (z : Int) : MRes := ⟨r, c, tab (fun i k => mulQ (xs.getD (i * c + k) 0) z) c (r * c), tabO (fun i k => mulO (xs.getD (i * c + k) 0) z) c (r * c), 0⟩
def transR (r c : Nat) (xs : List Int) : MRes := ⟨c, r, tab (fun i k => xs.getD (k * c + i) 0) r (c * r), false, 0⟩
def evenR (r c : Nat) (xs : List Int) : MRes := if r = c then ⟨r, c, eachL (fun x y => half1 (x + y)) xs (transL xs r c) r c, false, 0⟩ else ⟨0, 0, [], false, 9⟩
/-- A matrix and an oddness are handed back. -/
def GivesS (p : MRes) (w : World) (e : Ending) (w' : World) : Prop :=
  ∃ ao cap, e = .returned (.tuple #[.agg #[.int .i64 p.r, .int .i64 p.c, .slice ao p.xs.length cap], .bool p.odd]) ∧ QS w' (.slice ao p.xs.length cap) p.xs ∧ Below w.heap.size w w'
/-- A matrix is handed back. -/
def GivesT (p : MRes) (w : World) (e : Ending) (w' : World) : Prop :=
  ∃ ao cap, e = .returned (.agg #[.int .i64 p.r, .int .i64 p.c, .slice ao p.xs.length cap]) ∧ QS w' (.slice ao p.xs.length cap) p.xs ∧ Below w.heap.size w w'
/-- A matrix and an error number are handed back. -/
def GivesE (p : MRes) (w : World) (e : Ending) (w' : World) : Prop :=
  ∃ ao cap, e = .returned (.tuple #[.agg #[.int .i64 p.r, .int .i64 p.c, .slice ao p.xs.length cap], .int .i64 p.err]) ∧ QS w' (.slice ao p.xs.length cap) p.xs ∧ Below w.heap.size w w'
theorem givesE_of {p : MRes} {w w' : World} {e : Ending} (h : Gives1 p w e w') : GivesE p w e w' := by
  obtain ⟨ao, cap, rfl, ho, hb⟩ := h
  exact ⟨ao, cap, rfl, QS.of_owns ho, hb⟩
theorem givesS_of {r c n : Nat} {xs : List Int} {odd : Bool} {err : Int} {w w' : World} {e : Ending} (h : ∃ ao cap, e = .returned (.tuple #[.agg #[.int .i64 r, .int .i64 c, .slice ao n cap], .bool odd]) ∧ w'.ownsRow w.heap.size 25 1 (.slice ao n cap) n (xs.map (Value.int .i64)) ∧ Below w.heap.size w w') :
    GivesS ⟨r, c, xs, odd, err⟩ w e w' := by
  obtain ⟨ao, cap, rfl, ho, hb⟩ := h
  have hl : xs.length = n := by have := ho.1; simpa using this
  have hq := QS.of_owns ho
  subst hl
  exact ⟨ao, cap, rfl, hq, hb⟩
theorem givesT_of {r c n : Nat} {xs : List Int} {odd : Bool} {err : Int} {w w' : World} {e : Ending} (h : ∃ ao cap, e = .returned (.agg #[.int .i64 r, .int .i64 c, .slice ao n cap]) ∧ w'.ownsRow w.heap.size 25 1 (.slice ao n cap) n (xs.map (Value.int .i64)) ∧ Below w.heap.size w w') :
    GivesT ⟨r, c, xs, odd, err⟩ w e w' := by
  obtain ⟨ao, cap, rfl, ho, hb⟩ := h
  have hl : xs.length = n := by have := ho.1; simpa using this
  have hq := QS.of_owns ho
  subst hl
  exact ⟨ao, cap, rfl, hq, hb⟩

theorem eachO_none (xs ys : List Int) (r c : Nat) : eachO (fun _ _ => false) xs ys r c = false := by simp [eachO, tabO]
theorem inQ_of {xs : List Int} (h : xs.any clo = false) : InQ xs := by
  intro n
  rw [List.getD_eq_getElem?_getD]
  cases hx : xs[n]? with
  | none => simp
  | some x =>
    have hm : x ∈ xs := List.mem_of_getElem? hx
    have := List.any_eq_false.1 h x hm
    simp only [clo, Bool.or_eq_true, decide_eq_true_eq, not_or] at this
    simp only [Option.getD_some]
    omega

section
variable (w : World) (r c : Nat) (v : Value) (xs : List Int) (h : MV w r c v xs)

include h in
theorem scale_all (z : Int) : Calls Try.prog 13 #[.agg #[.int .i64 r, .int .i64 c, v], .int .i64 z] w (GivesS (scaleR r c xs z) w) :=
  (scale_any w r c v xs z h).mono fun _ _ hr => givesS_of hr
include h in
theorem rscale_all (z : Int) : Calls Try.prog 33 #[.agg #[.int .i64 r, .int .i64 c, v], .int .i64 z] w (GivesS (scaleR r c xs z) w) :=
  (rscale3_any w r c v xs z h).mono fun _ _ hr => givesS_of hr
include h in
theorem trans_all : Calls Try.prog 36 #[.agg #[.int .i64 r, .int .i64 c, v]] w (GivesT (transR r c xs) w) :=
  (trans_any w r c v xs h).mono fun _ _ hr => givesT_of hr
include h in
theorem rtrans_all : Calls Try.prog 37 #[.agg #[.int .i64 r, .int .i64 c, v]] w (GivesT (transR r c xs) w) :=
  (rtrans3_any w r c v xs h).mono fun _ _ hr => givesT_of hr
include h in
theorem even_all (hq : InQ xs) : Calls Try.prog 34 #[.agg #[.int .i64 r, .int .i64 c, v]] w (Gives (evenR r c xs) w) := by
  unfold evenR
  split
  · rename_i hs
    subst hs
    exact (even_any w r v xs h hq).mono fun e w' hr => gives_of (by rw [eachO_none] at hr; exact hr)
  · rename_i hs
    exact (even_no w r c v xs h hs).mono fun e w' hr => gives_no hr
include h in
theorem reven_all (hq : InQ xs) : Calls Try.prog 35 #[.agg #[.int .i64 r, .int .i64 c, v]] w (Gives (evenR r c xs) w) := by
  unfold evenR
  split
  · rename_i hs
    subst hs
    exact (reven3_any w r v xs h hq).mono fun e w' hr => gives_of hr
  · rename_i hs
    exact (reven3_no w r c v hs).mono fun e w' hr => gives_no hr
end

theorem eye_all (w : World) (n : Int) : Calls Try.prog 28 #[.int .i64 n] w (GivesE (eyeR n) w) := (eye_any w n).mono fun _ _ h => givesE_of h
theorem reye_all (w : World) (n : Int) : Calls Try.prog 29 #[.int .i64 n] w (GivesE (eyeR n) w) := (reye3_any w n).mono fun _ _ h => givesE_of h
theorem diag_all (w : World) (v : Value) (xs : List Int) (h : QS w v xs) (hl : xs.length ≤ 9223372036854775807) : Calls Try.prog 30 #[v] w (GivesE (diagR xs) w) := (diag_any w v xs h hl).mono fun _ _ h => givesE_of h
theorem rdiag_all (w : World) (v : Value) (xs : List Int) (h : QS w v xs) (hl : xs.length ≤ 9223372036854775807) : Calls Try.prog 31 #[v] w (GivesE (diagR xs) w) := (rdiag3_any w v xs h hl).mono fun _ _ h => givesE_of h

theorem diagR_len (xs : List Int) : (diagR xs).xs.length ≤ 64 := by
  unfold diagR
  split
  · rename_i h
    show (dgL xs xs.length).length ≤ 64
    unfold dgL
    rw [tab_length]
    exact mat_len h.2.1 h.2.1
  · simp
theorem eyeR_len (n : Int) : (eyeR n).xs.length ≤ 64 := diagR_len _
theorem scaleR_len {r c : Nat} (xs : List Int) (z : Int) (hr : r ≤ 8) (hc : c ≤ 8) : (scaleR r c xs z).xs.length ≤ 64 := by
  show (tab (fun i k => mulQ (xs.getD (i * c + k) 0) z) c (r * c)).length ≤ 64
  rw [tab_length]; exact mat_len hr hc
theorem transR_len {r c : Nat} (xs : List Int) (hr : r ≤ 8) (hc : c ≤ 8) : (transR r c xs).xs.length ≤ 64 := by
  show (tab (fun i k => xs.getD (k * c + i) 0) r (c * r)).length ≤ 64
  rw [tab_length]; exact mat_len hc hr
theorem evenR_len {r c : Nat} (xs : List Int) (hr : r ≤ 8) (hc : c ≤ 8) : (evenR r c xs).xs.length ≤ 64 := by
  unfold evenR
  split
  · show (eachL (fun x y => half1 (x + y)) xs (transL xs r c) r c).length ≤ 64
    unfold eachL
    rw [tab_length]
    exact mat_len hr hc
  · simp

end Go.Proofs.Ytijohedhbbddjaa
