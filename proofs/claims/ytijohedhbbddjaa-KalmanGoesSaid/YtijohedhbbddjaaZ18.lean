/- Texts of this claim, part 19: contracts of the functions that the law reaches. -/
import Derived.Test.YtijohedhbbddjaaZ8
import Derived.Test.YtijohedhbbddjaaZ17
namespace Go.Proofs.Ytijohedhbbddjaa
open Go.RowKit

/-- A work in block fb. -/
def Wk (w : World) (fb : Nat) (b : Bool) : Prop := w.heap[fb]? = some (.cells #[.bool b] 129 (0, 0))
theorem Wk.cell {w : World} {fb : Nat} {b : Bool} (h : Wk w fb b) : w.cell? ⟨fb, 0, none⟩ = some (.bool b) := by rw [cell_of_row _ _ _ _ _ _ h]; rfl
theorem Wk.frozen {w : World} {fb : Nat} {b : Bool} (h : Wk w fb b) : w.frozen? ⟨fb, 0, none⟩ = false := frozen_of_row _ _ 0 _ _ h
theorem Wk.set {w : World} {fb : Nat} {b : Bool} (h : Wk w fb b) (c : Bool) : Wk (w.setCell ⟨fb, 0, none⟩ (.bool c)) fb c := heap_setCell_same _ _ 0 _ _ _ h
theorem Wk.later {w w' : World} {fb : Nat} {b : Bool} (h : Wk w fb b) (hb : Below w.heap.size w w') : Wk w' fb b := block_later h hb
theorem Wk.lt {w : World} {fb : Nat} {b : Bool} (h : Wk w fb b) : fb < w.heap.size := lt_of_block h

theorem But.setNew {fb : Nat} {V w : World} (h : But fb V w) {g : Nat} (hg : V.heap.size ≤ g) (i : Nat) (x : Value) : But fb V (w.setCell ⟨g, i, none⟩ x) :=
  ⟨h.os, h.tape, h.output, by simpa [World.setCell] using h.size, fun k hk hn => (Below.heap_setCell _ _ _ _ (by show k ≠ g; omega)).trans (h.block k hk hn)⟩
theorem But.set3 {fb : Nat} {V w : World} (h : But fb V w) {g : Nat} (hg : V.heap.size ≤ g) (x y z : Value) : But fb V (((w.setCell ⟨g, 0, none⟩ x).setCell ⟨g, 1, none⟩ y).setCell ⟨g, 2, none⟩ z) := ((h.setNew hg 0 x).setNew hg 1 y).setNew hg 2 z
theorem But.cells {fb : Nat} {w w' : World} (hb : But fb w w') : (∀ b o, b < w.heap.size → b ≠ fb → w'.cell? ⟨b, o, none⟩ = w.cell? ⟨b, o, none⟩) ∧ (∀ b o, b < w.heap.size → b ≠ fb → w'.frozen? ⟨b, o, none⟩ = w.frozen? ⟨b, o, none⟩) :=
  ⟨fun b o h hn => World.cell?_of_block (w := w) (hb.block b h hn), fun b o h hn => World.frozen?_of_block (w := w) (hb.block b h hn)⟩

/-- What reads as numbers reads so behind a turn of the work. -/
theorem QS.but {w w' : World} {fb : Nat} {b : Bool} {v : Value} {xs : List Int} (h : QS w v xs) (hf : Wk w fb b) (hb : But fb w w') : QS w' v xs := by
  obtain ⟨ao, cap, rfl, hc, hx⟩ := h
  refine ⟨ao, cap, rfl, hc, fun i x hi => ?_⟩
  obtain ⟨g, off, rfl, hcell⟩ := hx i x hi
  refine ⟨g, off, rfl, ?_⟩
  by_cases hg : g = fb
  · subst hg
    rw [cell_of_row _ _ _ _ _ _ hf] at hcell
    cases hoi : off + i with
    | zero => rw [hoi] at hcell; simp at hcell
    | succ k => rw [hoi] at hcell; simp at hcell
  · exact cells_but' hcell hg _ hb
where
  cells_but' {w : World} {fb : Nat} {a : Addr} {v : Value} (h : w.cell? a = some v) (hn : a.block ≠ fb) : ∀ w', But fb w w' → w'.cell? a = some v := fun w' hb => by
    obtain ⟨o, ho⟩ : ∃ o, w.heap[a.block]? = some o := by
      cases ho : w.heap[a.block]? with
      | some o => exact ⟨o, rfl⟩
      | none => unfold World.cell? at h; rw [ho] at h; cases h
    have h2 := hb.row ho hn
    rw [← h]
    exact World.cell?_of_block (h2.trans ho.symm)
theorem MV.but {w w' : World} {fb : Nat} {b : Bool} {r c : Nat} {v : Value} {xs : List Int} (h : MV w r c v xs) (hf : Wk w fb b) (hb : But fb w w') : MV w' r c v xs := ⟨h.qs.but hf hb, h.len, h.hr, h.hc⟩

/-- A row of numbers of the call's own. -/
def Own (w : World) (base : Nat) (v : Value) (xs : List Int) : Prop := w.ownsRow base 25 1 v xs.length (xs.map (Value.int .i64))
theorem Own.qs {w : World} {base : Nat} {v : Value} {xs : List Int} (h : Own w base v xs) : QS w v xs := QS.of_owns h
theorem Own.later {w w' : World} {base : Nat} {v : Value} {xs : List Int} (h : Own w base v xs) (hb : Below w.heap.size w w') : Own w' base v xs := ownsRow_later h hb
theorem Own.base {w : World} {base base' : Nat} {v : Value} {xs : List Int} (h : Own w base v xs) (hb : base' ≤ base) : Own w base' v xs := ownsRow_base h hb
theorem Own.kept {w w' : World} {base : Nat} {v : Value} {xs : List Int} (h : Own w base v xs) (hk : ∀ (g : Nat) (cs : Array Value), base ≤ g → w.heap[g]? = some (.cells cs 25 (0, 0)) → w'.heap[g]? = w.heap[g]?) : Own w' base v xs := by
  refine ⟨h.1, ?_⟩
  rcases h.2 with h2 | ⟨g, cap, cur, hv, hg, hh, r⟩
  · exact Or.inl h2
  · exact Or.inr ⟨g, cap, cur, hv, hg, (hk g _ hg hh).trans hh, r⟩
theorem Own.but {w w' : World} {base fb : Nat} {b : Bool} {v : Value} {xs : List Int} (h : Own w base v xs) (hf : Wk w fb b) (hb : But fb w w') : Own w' base v xs :=
  h.kept fun g cs _ hg => hb.block g (lt_of_block hg) (fun he => by subst he; rw [hf] at hg; simp at hg)
theorem set3_other {w : World} {g k : Nat} (h : k ≠ g) (x y z : Value) : (((w.setCell ⟨g, 0, none⟩ x).setCell ⟨g, 1, none⟩ y).setCell ⟨g, 2, none⟩ z).heap[k]? = w.heap[k]? :=
  (Below.heap_setCell _ _ _ _ h).trans ((Below.heap_setCell _ _ _ _ h).trans (Below.heap_setCell _ _ _ _ h))
theorem Own.set3 {w : World} {base : Nat} {v : Value} {xs : List Int} (h : Own w base v xs) {g : Nat} {cs : Array Value} (hg : w.heap[g]? = some (.cells cs 24 (0, 0))) (x y z : Value) :
    Own (((w.setCell ⟨g, 0, none⟩ x).setCell ⟨g, 1, none⟩ y).setCell ⟨g, 2, none⟩ z) base v xs :=
  h.kept fun k cs' _ hk => set3_other (fun he => by subst he; rw [hg] at hk; simp at hk) x y z
theorem Wk.set3 {w : World} {fb : Nat} {b : Bool} (h : Wk w fb b) {g : Nat} {cs : Array Value} (hg : w.heap[g]? = some (.cells cs 24 (0, 0))) (x y z : Value) :
    Wk (((w.setCell ⟨g, 0, none⟩ x).setCell ⟨g, 1, none⟩ y).setCell ⟨g, 2, none⟩ z) fb b :=
  (set3_other (fun he => by subst he; unfold Wk at h; rw [hg] at h; simp at h) x y z).trans h
theorem Own.of {w : World} {base n : Nat} {v : Value} {xs : List Int} (h : w.ownsRow base 25 1 v n (xs.map (Value.int .i64))) : Own w base v xs := by
  have hl : xs.length = n := by have := h.1; simpa using this
  subst hl; exact h

/- What work's mat does. -/
set_option maxRecDepth 100000 in
set_option maxHeartbeats 1000000 in
theorem wmat_any (w : World) (fb : Nat) (b odd : Bool) (r c err : Int) (ao : Option Addr) (n cap : Nat) (h : Wk w fb b) :
    Calls Try.prog 104 #[.pointer (some ⟨fb, 0, none⟩), .agg #[.int .i64 r, .int .i64 c, .slice ao n cap], .bool odd, .int .i64 err] w fun e w' =>
      e = .returned (.agg #[.int .i64 r, .int .i64 c, .slice ao n cap]) ∧ Wk w' fb (b || odd) ∧ But fb w w' := by
  have hlt := h.lt
  obtain ⟨W, hW⟩ : ∃ W, W = (w.alloc (.cells #[.int .i64 r, .int .i64 c, .slice ao n cap] 24)).alloc (.cells #[.int .i64 0, .int .i64 0, .slice none 0 0] 24) := ⟨_, rfl⟩
  have HW : Hid (Wk W fb b) := by rw [hW]; exact h.later (below2 _ _ _)
  have HB : Hid (But fb w W) := by rw [hW]; exact But.of_below (below2 _ _ _)
  have hx : W.heap[w.heap.size]? = some (.cells #[.int .i64 r, .int .i64 c, .slice ao n cap] 24 (0, 0)) := by rw [hW, heap_old _ _ _ (by simp)]; exact heap_at _ _ _ rfl
  have hy : W.heap[w.heap.size + 1]? = some (.cells #[.int .i64 0, .int .i64 0, .slice none 0 0] 24 (0, 0)) := by rw [hW]; exact heap_at _ _ _ (by simp)
  have hc := HW.out.cell
  have hf := HW.out.frozen
  have x0 := cell_of_row _ _ 0 _ _ _ hx
  have x1 := cell_of_row _ _ 1 _ _ _ hx
  have x2 := cell_of_row _ _ 2 _ _ _ hx
  have y0 := cell_of_row _ _ 0 _ _ _ hy
  have y1 := cell_of_row _ _ 1 _ _ _ hy
  have y2 := cell_of_row _ _ 2 _ _ _ hy
  simp only [List.getElem?_toArray, List.getElem?_cons_succ, List.getElem?_cons_zero] at x0 x1 x2 y0 y1 y2
  have f0 := frozen_of_row _ _ 0 _ _ hy
  have f1 := frozen_of_row _ _ 1 _ _ hy
  have f2 := frozen_of_row _ _ 2 _ _ hy
  have HY := Lib.hid hy
  have n1 : ¬ w.heap.size = fb := by omega
  have n2 : ¬ w.heap.size + 1 = fb := by omega
  have n3 : ¬ fb = w.heap.size := by omega
  have n4 : ¬ fb = w.heap.size + 1 := by omega
  clear hx hy h
  cases b
  all_goals
    go_enter Try.func104, Try.ntmps104
    go_upto_region 1 with fail
    rw [← hW]
    clear hW
    go_wp2_with fail
    have hz : ∀ u, (W.setCell ⟨fb, 0, none⟩ u).heap[w.heap.size + 1]? = some (.cells #[.int .i64 0, .int .i64 0, .slice none 0 0] 24 (0, 0)) := fun u => (Below.heap_setCell W ⟨fb, 0, none⟩ u (w.heap.size + 1) (by show w.heap.size + 1 ≠ fb; omega)).trans HY.out
    refine bodyPost_ret (results_row rfl _ _ (w.heap.size + 1) 24 #[.int .i64 r, .int .i64 c, .slice ao n cap] (0, 0) _ rfl (heap_store3 _ _ _ _ _ _ _ _ _ (hz _)) Try.underlying24 rfl (by kernel_rfl)) rfl ⟨rfl, ?_, ?_⟩
    · exact (HW.out.set _).set3 (hz _) _ _ _
    · exact (HB.out.trans (But.set _ _ _)).set3 (by omega) _ _ _

set_option maxHeartbeats 400000 in
theorem wone_any (w : World) (fb : Nat) (b odd : Bool) (a : Int) (h : Wk w fb b) :
    Calls Try.prog 111 #[.pointer (some ⟨fb, 0, none⟩), .int .i64 a, .bool odd] w fun e w' => e = .returned (.int .i64 a) ∧ Wk w' fb (b || odd) ∧ But fb w w' := by
  have hc := h.cell
  have hf := h.frozen
  have H := Lib.hid h
  clear h
  cases b
  all_goals
    go_enter Try.func111, Try.ntmps111
    go_wp2
    go_ret
    exact ⟨rfl, H.out.set _, But.set _ _ _⟩

end Go.Proofs.Ytijohedhbbddjaa

namespace Go.Proofs.Ytijohedhbbddjaa
open Go.RowKit

/-- A matrix whose row is the call's own, from block base on. -/
structure MO (w : World) (base r c : Nat) (v : Value) (xs : List Int) : Prop where
  own : Own w base v xs
  len : xs.length = r * c
  hr : r ≤ 8
  hc : c ≤ 8
section
variable {w w' : World} {base r c : Nat} {v : Value} {xs : List Int}
theorem MO.mv (h : MO w base r c v xs) : MV w r c v xs := ⟨h.own.qs, h.len, h.hr, h.hc⟩
theorem MO.later (h : MO w base r c v xs) (hb : Below w.heap.size w w') : MO w' base r c v xs := ⟨h.own.later hb, h.len, h.hr, h.hc⟩
theorem MO.but {fb : Nat} {b : Bool} (h : MO w base r c v xs) (hf : Wk w fb b) (hb : But fb w w') : MO w' base r c v xs := ⟨h.own.but hf hb, h.len, h.hr, h.hc⟩
theorem MO.set3 (h : MO w base r c v xs) {g : Nat} {cs : Array Value} (hg : w.heap[g]? = some (.cells cs 24 (0, 0))) (x y z : Value) : MO (((w.setCell ⟨g, 0, none⟩ x).setCell ⟨g, 1, none⟩ y).setCell ⟨g, 2, none⟩ z) base r c v xs := ⟨h.own.set3 hg x y z, h.len, h.hr, h.hc⟩
theorem MO.low {base' : Nat} (h : MO w base r c v xs) (hb : base' ≤ base) : MO w base' r c v xs := ⟨h.own.base hb, h.len, h.hr, h.hc⟩
theorem MO.of {n : Nat} (h : w.ownsRow base 25 1 v n (xs.map (Value.int .i64))) (hn : n = r * c) (hr : r ≤ 8) (hc : c ≤ 8) : MO w base r c v xs :=
  ⟨Own.of h, by have := h.1; rw [← hn]; simpa using this, hr, hc⟩
end

def GivesO (r c : Nat) (xs : List Int) (odd : Bool) (w : World) (e : Ending) (w' : World) : Prop :=
  ∃ ao cap, e = .returned (.tuple #[.agg #[.int .i64 r, .int .i64 c, .slice ao xs.length cap], .bool odd, .int .i64 0]) ∧ MO w' w.heap.size r c (.slice ao xs.length cap) xs ∧ Below w.heap.size w w'
def GivesSO (r c : Nat) (xs : List Int) (odd : Bool) (w : World) (e : Ending) (w' : World) : Prop :=
  ∃ ao cap, e = .returned (.tuple #[.agg #[.int .i64 r, .int .i64 c, .slice ao xs.length cap], .bool odd]) ∧ MO w' w.heap.size r c (.slice ao xs.length cap) xs ∧ Below w.heap.size w w'
def GivesEO (r c : Nat) (xs : List Int) (w : World) (e : Ending) (w' : World) : Prop :=
  ∃ ao cap, e = .returned (.tuple #[.agg #[.int .i64 r, .int .i64 c, .slice ao xs.length cap], .int .i64 0]) ∧ MO w' w.heap.size r c (.slice ao xs.length cap) xs ∧ Below w.heap.size w w'
def GivesTO (r c : Nat) (xs : List Int) (w : World) (e : Ending) (w' : World) : Prop :=
  ∃ ao cap, e = .returned (.agg #[.int .i64 r, .int .i64 c, .slice ao xs.length cap]) ∧ MO w' w.heap.size r c (.slice ao xs.length cap) xs ∧ Below w.heap.size w w'
theorem givesO_of {r c : Nat} {xs : List Int} {odd : Bool} {w w' : World} {e : Ending} (hr : r ≤ 8) (hc : c ≤ 8) (h : ∃ ao cap, e = .returned (.tuple #[.agg #[.int .i64 r, .int .i64 c, .slice ao (r * c) cap], .bool odd, .int .i64 0]) ∧ w'.ownsRow w.heap.size 25 1 (.slice ao (r * c) cap) (r * c) (xs.map (Value.int .i64)) ∧ Below w.heap.size w w') : GivesO r c xs odd w e w' := by
  obtain ⟨ao, cap, rfl, ho, hb⟩ := h
  have hl : xs.length = r * c := by have := ho.1; simpa using this
  have hm := MO.of (r := r) (c := c) ho rfl hr hc
  rw [← hl] at hm ⊢
  exact ⟨ao, cap, rfl, hm, hb⟩
theorem givesSO_of {r c : Nat} {xs : List Int} {odd : Bool} {w w' : World} {e : Ending} (hr : r ≤ 8) (hc : c ≤ 8) (h : ∃ ao cap, e = .returned (.tuple #[.agg #[.int .i64 r, .int .i64 c, .slice ao (r * c) cap], .bool odd]) ∧ w'.ownsRow w.heap.size 25 1 (.slice ao (r * c) cap) (r * c) (xs.map (Value.int .i64)) ∧ Below w.heap.size w w') : GivesSO r c xs odd w e w' := by
  obtain ⟨ao, cap, rfl, ho, hb⟩ := h
  have hl : xs.length = r * c := by have := ho.1; simpa using this
  have hm := MO.of (r := r) (c := c) ho rfl hr hc
  rw [← hl] at hm ⊢
  exact ⟨ao, cap, rfl, hm, hb⟩
theorem givesTO_of {r c : Nat} {xs : List Int} {w w' : World} {e : Ending} (hr : r ≤ 8) (hc : c ≤ 8) (h : ∃ ao cap, e = .returned (.agg #[.int .i64 r, .int .i64 c, .slice ao (r * c) cap]) ∧ w'.ownsRow w.heap.size 25 1 (.slice ao (r * c) cap) (r * c) (xs.map (Value.int .i64)) ∧ Below w.heap.size w w') : GivesTO r c xs w e w' := by
  obtain ⟨ao, cap, rfl, ho, hb⟩ := h
  have hl : xs.length = r * c := by have := ho.1; simpa using this
  have hm := MO.of (r := r) (c := c) ho rfl hr hc
  rw [← hl] at hm ⊢
  exact ⟨ao, cap, rfl, hm, hb⟩

theorem mmul_own (w : World) (r m c : Nat) (v v' : Value) (xs ys : List Int) (h : MV w r m v xs) (h' : MV w m c v' ys) :
    Calls Try.prog 20 #[.agg #[.int .i64 r, .int .i64 m, v], .agg #[.int .i64 m, .int .i64 c, v']] w (GivesO r c (mulL xs ys r m c) (mulLO xs ys r m c) w) :=
  (mmul_any w r m c v v' xs ys h h').mono fun _ _ hr => givesO_of h.hr h'.hc hr
theorem rmul_own (w : World) (r m c : Nat) (v v' : Value) (xs ys : List Int) (h : MV w r m v xs) (h' : MV w m c v' ys) :
    Calls Try.prog 21 #[.agg #[.int .i64 r, .int .i64 m, v], .agg #[.int .i64 m, .int .i64 c, v']] w (GivesO r c (mulL xs ys r m c) (mulLO xs ys r m c) w) :=
  (rmul3_any w r m c v v' xs ys h h').mono fun _ _ hr => givesO_of h.hr h'.hc hr
theorem madd_own (w : World) (r c : Nat) (v v' : Value) (xs ys : List Int) (h : MV w r c v xs) (h' : MV w r c v' ys) :
    Calls Try.prog 16 #[.agg #[.int .i64 r, .int .i64 c, v], .agg #[.int .i64 r, .int .i64 c, v']] w (GivesO r c (eachL addQ xs ys r c) (eachO addO xs ys r c) w) :=
  (madd_any w r c v v' xs ys h h').mono fun _ _ hr => givesO_of h.hr h.hc hr
theorem radd_own (w : World) (r c : Nat) (v v' : Value) (xs ys : List Int) (h : MV w r c v xs) (h' : MV w r c v' ys) :
    Calls Try.prog 17 #[.agg #[.int .i64 r, .int .i64 c, v], .agg #[.int .i64 r, .int .i64 c, v']] w (GivesO r c (eachL addQ xs ys r c) (eachO addO xs ys r c) w) :=
  (radd3_any w r c v v' xs ys h h').mono fun _ _ hr => givesO_of h.hr h.hc hr
theorem msub_own (w : World) (r c : Nat) (v v' : Value) (xs ys : List Int) (h : MV w r c v xs) (h' : MV w r c v' ys) :
    Calls Try.prog 18 #[.agg #[.int .i64 r, .int .i64 c, v], .agg #[.int .i64 r, .int .i64 c, v']] w (GivesO r c (eachL subQ xs ys r c) (eachO subO xs ys r c) w) :=
  (msub_any w r c v v' xs ys h h').mono fun _ _ hr => givesO_of h.hr h.hc hr
theorem rsub_own (w : World) (r c : Nat) (v v' : Value) (xs ys : List Int) (h : MV w r c v xs) (h' : MV w r c v' ys) :
    Calls Try.prog 19 #[.agg #[.int .i64 r, .int .i64 c, v], .agg #[.int .i64 r, .int .i64 c, v']] w (GivesO r c (eachL subQ xs ys r c) (eachO subO xs ys r c) w) :=
  (rsub3_any w r c v v' xs ys h h').mono fun _ _ hr => givesO_of h.hr h.hc hr
theorem trans_own (w : World) (r c : Nat) (v : Value) (xs : List Int) (h : MV w r c v xs) :
    Calls Try.prog 36 #[.agg #[.int .i64 r, .int .i64 c, v]] w (GivesTO c r (transL xs r c) w) :=
  (trans_any w r c v xs h).mono fun _ _ hr => givesTO_of h.hc h.hr hr
theorem rtrans_own (w : World) (r c : Nat) (v : Value) (xs : List Int) (h : MV w r c v xs) :
    Calls Try.prog 37 #[.agg #[.int .i64 r, .int .i64 c, v]] w (GivesTO c r (transL xs r c) w) :=
  (rtrans3_any w r c v xs h).mono fun _ _ hr => givesTO_of h.hc h.hr hr
def scaleL (xs : List Int) (z : Int) (r c : Nat) : List Int := tab (fun i k => mulQ (xs.getD (i * c + k) 0) z) c (r * c)
def scaleLO (xs : List Int) (z : Int) (r c : Nat) : Bool := tabO (fun i k => mulO (xs.getD (i * c + k) 0) z) c (r * c)
theorem scale_own (w : World) (r c : Nat) (v : Value) (xs : List Int) (z : Int) (h : MV w r c v xs) :
    Calls Try.prog 13 #[.agg #[.int .i64 r, .int .i64 c, v], .int .i64 z] w (GivesSO r c (scaleL xs z r c) (scaleLO xs z r c) w) :=
  (scale_any w r c v xs z h).mono fun _ _ hr => givesSO_of h.hr h.hc hr
theorem rscale_own (w : World) (r c : Nat) (v : Value) (xs : List Int) (z : Int) (h : MV w r c v xs) :
    Calls Try.prog 33 #[.agg #[.int .i64 r, .int .i64 c, v], .int .i64 z] w (GivesSO r c (scaleL xs z r c) (scaleLO xs z r c) w) :=
  (rscale3_any w r c v xs z h).mono fun _ _ hr => givesSO_of h.hr h.hc hr
def eyeL (n : Nat) : List Int := dgL (List.replicate n 16777216) n
theorem eyeR_ok {n : Nat} (h1 : 1 ≤ n) (h8 : n ≤ 8) : eyeR (n : Int) = ⟨n, n, eyeL n, false, 0⟩ := by
  unfold eyeR
  have he : eyeN (n : Int) = n := by unfold eyeN; rw [if_neg (by omega), if_neg (by omega)]; omega
  rw [he]
  unfold diagR
  have hc : (List.replicate n (16777216 : Int)).any clo = false := by
    rw [List.any_eq_false]
    intro x hx
    rw [List.eq_of_mem_replicate hx]
    decide
  rw [if_pos ⟨by simpa using h1, by simpa using h8, hc⟩, List.length_replicate]
  rfl
theorem eye_len (n : Nat) : (eyeL n).length = n * n := by unfold eyeL dgL; rw [tab_length]
theorem eye_own (w : World) (n : Nat) (h1 : 1 ≤ n) (h8 : n ≤ 8) : Calls Try.prog 28 #[.int .i64 n] w (GivesEO n n (eyeL n) w) := by
  have h := eye_any w n
  rw [eyeR_ok h1 h8] at h
  refine h.mono fun e w' hr => ?_
  obtain ⟨ao, cap, rfl, ho, hb⟩ := hr
  exact ⟨ao, cap, rfl, ⟨ho, eye_len n, h8, h8⟩, hb⟩
theorem reye_own (w : World) (n : Nat) (h1 : 1 ≤ n) (h8 : n ≤ 8) : Calls Try.prog 29 #[.int .i64 n] w (GivesEO n n (eyeL n) w) := by
  have h := reye3_any w n
  rw [eyeR_ok h1 h8] at h
  refine h.mono fun e w' hr => ?_
  obtain ⟨ao, cap, rfl, ho, hb⟩ := hr
  exact ⟨ao, cap, rfl, ⟨ho, eye_len n, h8, h8⟩, hb⟩

def btwL (xs ps : List Int) (r n : Nat) : List Int := mulL (mulL xs ps r n n) (transL xs r n) r n r
def btwO (xs ps : List Int) (r n : Nat) : Bool := mulLO xs ps r n n || mulLO (mulL xs ps r n n) (transL xs r n) r n r
/-- A matrix is handed back, and the work is turned. -/
def GivesW (fb r c : Nat) (xs : List Int) (b : Bool) (w : World) (e : Ending) (w' : World) : Prop :=
  ∃ ao cap, e = .returned (.agg #[.int .i64 r, .int .i64 c, .slice ao xs.length cap]) ∧ MO w' 0 r c (.slice ao xs.length cap) xs ∧ Wk w' fb b ∧ But fb w w'

theorem tab_inQ {g : Nat → Nat → Int} (h : ∀ i k, -70368744177664 ≤ g i k ∧ g i k ≤ 70368744177663) (c n : Nat) : InQ (tab g c n) := by
  intro j
  unfold tab
  rw [List.getD_eq_getElem?_getD, List.getElem?_map]
  by_cases hj : j < n
  · rw [List.getElem?_range hj]; exact h _ _
  · rw [List.getElem?_eq_none (by simp; omega)]; simp
theorem eachAdd_inQ (xs ys : List Int) (r c : Nat) : InQ (eachL addQ xs ys r c) := tab_inQ (fun _ _ => cl_bd _) _ _

end Go.Proofs.Ytijohedhbbddjaa
