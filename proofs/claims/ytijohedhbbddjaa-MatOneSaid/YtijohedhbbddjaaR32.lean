/- The reference's rows that are made by None and stored into: what stays, what a store does. -/
import Derived.Test.YtijohedhbbddjaaR31
namespace Go.Proofs.Ytijohedhbbddjaa
open Go.RowKit

/-- A matrix of the call's own: its block, its row, and what lies ahead of both. -/
structure RowIn (W0 wr : World) (g r c n : Nat) (row : Value) (ys : List Int) : Prop where
  keep : Below W0.heap.size W0 wr
  m : wr.heap[g]? = some (.cells #[.int .i64 r, .int .i64 c, row] 24 (0, 0))
  own : wr.ownsRow W0.heap.size 25 1 row n (ys.map (Value.int .i64))
  ne : ∀ k, row.ownBlock = some k → k < g
  ge : W0.heap.size ≤ g

theorem RowIn.later {W0 wr wx : World} {g r c n : Nat} {row : Value} {ys : List Int} (h : RowIn W0 wr g r c n row ys) (hb : Below wr.heap.size wr wx) : RowIn W0 wx g r c n row ys :=
  ⟨below_tr2 hb h.keep, block_later h.m hb, ownsRow_later h.own hb, h.ne, h.ge⟩
theorem RowIn.drewN {W0 wr : World} {g r c n : Nat} {row : Value} {ys : List Int} (h : RowIn W0 wr g r c n row ys) (k : Nat) : RowIn W0 (wr.drewN k) g r c n row ys :=
  h.later (below_drewN' (Below.refl _ _) k)
theorem RowIn.len {W0 wr : World} {g r c n : Nat} {row : Value} {ys : List Int} (h : RowIn W0 wr g r c n row ys) : ys.length = n := by have := h.own.1; simpa using this
/-- A place of the row. -/
theorem RowIn.at {W0 wr : World} {g r c n : Nat} {row : Value} {ys : List Int} (h : RowIn W0 wr g r c n row ys) {k : Nat} (hk : k < n) :
    ∃ q cap, row = .slice (some ⟨q, 0, none⟩) n cap ∧ wr.cell? ⟨q, k, none⟩ = some (.int .i64 (ys.getD k 0)) ∧ wr.frozen? ⟨q, k, none⟩ = false ∧
      ∀ wx, Below wr.heap.size wr wx → ∀ x : Int, RowIn W0 (wx.setCell ⟨q, k, none⟩ (.int .i64 x)) g r c n row (ys.set k x) := by
  have hl := h.len
  rcases id h.own.2 with ⟨rfl, rfl⟩ | ⟨q, cap, cur, rfl, hq, hh, hn, hm, hs, ht⟩
  · omega
  · refine ⟨q, cap, rfl, ?_, ?_, fun wx hb x => ?_⟩
    · rw [h.own.cellAt k (by omega)]
      have : k < ys.length := by omega
      simp [this]
    · exact h.own.frozenAt k
    · have hx := h.later hb
      have hs := hx.own.stored k (.int .i64 x)
      have hqg : q < g := h.ne q rfl
      refine ⟨hx.keep.setCell hq _, ?_, ?_, h.ne, h.ge⟩
      · rw [heap_setCell_other _ _ _ _ (by simp; omega)]; exact hx.m
      · rw [List.map_set]; exact hs.1
theorem RowIn.of {W0 w1 : World} {r c n : Nat} {ao : Option Addr} {cap : Nat} {ys : List Int} (hb : Below W0.heap.size W0 w1) (ho : w1.ownsRow W0.heap.size 25 1 (.slice ao n cap) n (ys.map (Value.int .i64))) :
    RowIn W0 (w1.alloc (.cells #[.int .i64 r, .int .i64 c, .slice ao n cap] 24)) w1.heap.size r c n (.slice ao n cap) ys :=
  ⟨below_al hb _, heap_alloc_new _ _, ho.alloc _, fun k hk => (ho.lt k hk).2, hb.size⟩

/-- A row, told by its places. -/
def rowF (f : Nat → Int) (n : Nat) : List Int := (List.range n).map f
theorem rowF_zero (n : Nat) : List.replicate n (0 : Int) = rowF (fun _ => 0) n := by unfold rowF; rw [List.map_const']; simp
theorem rowF_ext {f g : Nat → Int} {n : Nat} (h : ∀ j, j < n → f j = g j) : rowF f n = rowF g n := by
  unfold rowF; exact List.map_congr_left fun j hj => h j (List.mem_range.1 hj)
theorem rowF_getD (f : Nat → Int) {n k : Nat} (hk : k < n) : (rowF f n).getD k 0 = f k := by simp [rowF, hk]
theorem rowF_set (f : Nat → Int) (n k : Nat) (x : Int) : (rowF f n).set k x = rowF (fun j => if j = k then x else f j) n := by
  apply List.ext_getElem?
  intro j
  unfold rowF
  rw [List.getElem?_set]
  by_cases hj : j < n
  · by_cases e : k = j
    · subst e; simp [hj]
    · have e' : ¬ j = k := fun h => e h.symm
      simp [hj, e, e']
  · by_cases e : k = j
    · subst e; simp [hj]
    · simp [hj, e]
theorem tab_rowF (g : Nat → Nat → Int) (c n : Nat) : tab g c n = rowF (fun j => g (j / c) (j % c)) n := rfl
theorem eachL_rowF (g : Int → Int → Int) (xs ys : List Int) (r c : Nat) : eachL g xs ys r c = rowF (fun j => g (xs.getD j 0) (ys.getD j 0)) (r * c) := by
  unfold eachL
  rw [tab_rowF]
  exact rowF_ext fun j _ => by simp only [Nat.div_add_mod']
theorem eachO_any (o : Int → Int → Bool) (xs ys : List Int) (r c : Nat) : eachO o xs ys r c = (List.range (r * c)).any fun j => o (xs.getD j 0) (ys.getD j 0) := by
  unfold eachO tabO
  simp only [Nat.div_add_mod']
def upto (F : Nat → Int) (k j : Nat) : Int := if j < k then F j else 0
theorem rowF_upto_set (F : Nat → Int) (n k : Nat) : (rowF (upto F k) n).set k (F k) = rowF (upto F (k + 1)) n := by
  rw [rowF_set]
  refine rowF_ext fun j _ => ?_
  unfold upto
  by_cases h1 : j = k
  · subst h1; simp
  · by_cases h2 : j < k
    · rw [if_neg h1, if_pos h2, if_pos (by omega)]
    · rw [if_neg h1, if_neg h2, if_neg (by omega)]
theorem rowF_upto_zero (F : Nat → Int) (n : Nat) : rowF (upto F 0) n = List.replicate n (0 : Int) := by rw [rowF_zero]; exact rowF_ext fun j _ => by simp [upto]
theorem rowF_upto_all (F : Nat → Int) (n : Nat) : rowF (upto F n) n = rowF F n := rowF_ext fun j hj => by simp [upto, hj]

theorem swap_eq {P : Program} {f : FuncId} {args : Array Value} {w : World} {v : Value} (h : Calls P f args w fun e w' => e = .returned v ∧ w = w') : Calls P f args w fun e w' => e = .returned v ∧ w' = w :=
  h.mono fun _ _ h => ⟨h.1, h.2.symm⟩

end Go.Proofs.Ytijohedhbbddjaa
