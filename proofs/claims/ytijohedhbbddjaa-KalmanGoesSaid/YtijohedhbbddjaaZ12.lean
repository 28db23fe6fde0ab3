/- Texts of this claim, part 13: contracts of the functions that the law reaches. -/
import Derived.Test.YtijohedhbbddjaaZ11
import Derived.Laws.OwnMore
namespace Go.Proofs.Ytijohedhbbddjaa
open Go.RowKit

/-- How None's memory stands: the result's block, the row. -/
structure NoneAt (w wr : World) (v : Value) (xs : List Int) : Prop where
  t : wr.heap[w.heap.size]? = some (.cells #[.int .i64 0, .int .i64 0, .slice none 0 0] 24 (0, 0))
  own : wr.ownsRow (w.heap.size + 1) 25 1 v xs.length (xs.map (Value.int .i64))
  below : Below w.heap.size w wr
theorem NoneAt.size {w wr : World} {v : Value} {xs : List Int} (h : NoneAt w wr v xs) : w.heap.size + 1 ≤ wr.heap.size := by
  have := lt_of_block h.t; omega
theorem NoneAt.ft {w wr : World} {v : Value} {xs : List Int} (h : NoneAt w wr v xs) (j : Nat) : wr.frozen? ⟨w.heap.size, j, none⟩ = false := frozen_of_row _ _ _ _ _ h.t
theorem none_start (w : World) : NoneAt w (w.alloc (.cells #[.int .i64 0, .int .i64 0, .slice none 0 0] 24)) (.slice none 0 0) [] :=
  ⟨heap_alloc_new _ _, World.ownsRow_nil _ _ _ _, below1 _ _⟩
theorem NoneAt.step {w w1 w2 : World} {v v' : Value} {xs : List Int} {x : Int} {o : Obj} (h : NoneAt w w1 v xs)
    (hown : w2.ownsRow (w.heap.size + 1) 25 1 v' (xs.length + 1) (xs.map (Value.int .i64) ++ [.int .i64 x])) (hg : (w1.alloc o).grownBy w2 v.ownBlock) : NoneAt w w2 v' (xs ++ [x]) := by
  have hs := h.size
  have hvb : ∀ k, v.ownBlock = some k → w.heap.size + 1 ≤ k := fun k hk => (h.own.lt k hk).1
  refine ⟨?_, ?_, ?_⟩
  · rw [hg.block _ (by simp; omega) (fun e => by have := hvb _ e.symm; omega), Below.heap_alloc _ _ _ (by omega)]; exact h.t
  · simpa only [List.length_append, List.length_cons, List.length_nil, Nat.zero_add, List.map_append, List.map_cons, List.map_nil] using hown
  · exact (h.below.alloc (by omega) o).grown hg (by simp; omega) (fun k hk => by have := hvb k hk; omega)

set_option maxRecDepth 100000 in
set_option maxHeartbeats 1000000 in
theorem none_any (w : World) (r c : Nat) (hr : r ≤ 8) (hc : c ≤ 8) :
    Calls Try.prog 77 #[.int .i64 r, .int .i64 c] w fun e w' =>
      ∃ ao cap, e = .returned (.agg #[.int .i64 r, .int .i64 c, .slice ao (r * c) cap]) ∧ w'.ownsRow w.heap.size 25 1 (.slice ao (r * c) cap) (r * c) ((List.replicate (r * c) (0 : Int)).map (Value.int .i64)) ∧ Below w.heap.size w w' := by
  obtain ⟨m, hm⟩ : ∃ m, r * c = m := ⟨_, rfl⟩
  have hm64 : m ≤ 64 := by rw [← hm]; exact Nat.mul_le_mul hr hc
  have hmi : ((r : Int) * (c : Int)) = (m : Int) := by rw [← hm]; simp
  obtain ⟨i0, hi, hz0, hz1, hz2⟩ := info_parts Try.infoQ
  rw [hm]
  clear hm
  go_enter Try.func77, Try.ntmps77
  go_wp2_with fail
  go_loopg [5, 6] m (fun n sv kv wr => ∃ k : Nat, k ≤ m ∧ n = m - k ∧ kv = .int .i64 k ∧ ∃ ao cap, sv = .slice ao k cap ∧ NoneAt w wr (.slice ao k cap) (List.replicate k 0))
  case atStart => exact ⟨0, by omega, by omega, rfl, none, 0, rfl, none_start w⟩
  case round =>
    obtain ⟨k, hk, rfl, rfl, ao, cap, rfl, hN⟩ := hrel
    have HN := Lib.hid hN
    have hsz := hN.size
    have ho := hN.own
    rw [List.length_replicate] at ho
    clear hN
    by_cases hlt : k < m
    · go_wp2_with (at_builtin; refine wpList_append_own _ rfl (.tmp 14) (.tmp 15) 22 rfl (w.heap.size + 1) 25 i0 (.int .i64 0) 1 8 Try.underlying22 hi hz0 hz1 hz2 rfl (by decide) _ _ _ rfl (ho.alloc _) ⟨wr.heap.size, 0, none⟩ 1 1 [.int .i64 0] rfl rfl (news1 _ _ _) (one1 _ _) (by unfold maxLen; omega) (by omega) (by simp; omega) ?_; intro v' w2 hown2 hgrow2 _; obtain ⟨ao', cap', rfl⟩ := ownsRow_form hown2)
      go_roundg (m - (k + 1))
      case measure => omega
      case rel =>
        refine ⟨k + 1, by omega, rfl, by go_num, ao', cap', rfl, ?_⟩
        have := HN.out.step (by rw [List.length_replicate]; exact hown2) hgrow2
        rw [List.replicate_succ']
        exact this
    · have hkm : k = m := by omega
      subst hkm
      have f0 := HN.out.ft 0
      have f1 := HN.out.ft 1
      have f2 := HN.out.ft 2
      have t0 := cell_of_row _ _ 0 _ _ _ HN.out.t
      have t1 := cell_of_row _ _ 1 _ _ _ HN.out.t
      have t2 := cell_of_row _ _ 2 _ _ _ HN.out.t
      simp only [List.getElem?_toArray, List.getElem?_cons_succ, List.getElem?_cons_zero] at t0 t1 t2
      go_wp2_with fail
      have g3 := heap_store3 _ _ _ _ _ (.int .i64 r) (.int .i64 c) (.slice ao k cap) _ HN.out.t
      refine bodyPost_ret (results_row rfl _ _ _ _ _ _ _ rfl g3 Try.underlying24 rfl (by kernel_rfl)) rfl ⟨ao, cap, rfl, ?_, ?_⟩
      · exact ownsRow_base (owns_set3 ho (by omega) _ _ _) (by omega)
      · exact below_set3 HN.out.below (by omega) _ _ _

end Go.Proofs.Ytijohedhbbddjaa

namespace Go.Proofs.Ytijohedhbbddjaa
open Go.RowKit

/-- A matrix of the call's own: its block, its row, and what lies ahead of both. -/
structure RowIn (W0 wr : World) (g r c n : Nat) (row : Value) (ys : List Int) : Prop where
  keep : Below W0.heap.size W0 wr
  m : wr.heap[g]? = some (.cells #[.int .i64 r, .int .i64 c, row] 24 (0, 0))
  own : wr.ownsRow W0.heap.size 25 1 row n (ys.map (Value.int .i64))
  ne : ∀ k, row.ownBlock = some k → k < g
  ge : W0.heap.size ≤ g

theorem RowIn.later {W0 wr wx : World} {g r c n : Nat} {row : Value} {ys : List Int} (h : RowIn W0 wr g r c n row ys) (hb : Below wr.heap.size wr wx) : RowIn W0 wx g r c n row ys :=
  ⟨below_tr2 hb h.keep, block_later h.m hb, ownsRow_later h.own hb, h.ne, h.ge⟩
theorem RowIn.drewN {W0 wr : World} {g r c n : Nat} {row : Value} {ys : List Int} (h : RowIn W0 wr g r c n row ys) (k : Nat) : RowIn W0 (wr.drewN k) g r c n row ys :=
  h.later (below_drewN' (Below.refl _ _) k)
theorem RowIn.len {W0 wr : World} {g r c n : Nat} {row : Value} {ys : List Int} (h : RowIn W0 wr g r c n row ys) : ys.length = n := by have := h.own.1; simpa using this
/-- A place of the row. -/
theorem RowIn.at {W0 wr : World} {g r c n : Nat} {row : Value} {ys : List Int} (h : RowIn W0 wr g r c n row ys) {k : Nat} (hk : k < n) :
    ∃ q cap, row = .slice (some ⟨q, 0, none⟩) n cap ∧ wr.cell? ⟨q, k, none⟩ = some (.int .i64 (ys.getD k 0)) ∧ wr.frozen? ⟨q, k, none⟩ = false ∧
      ∀ wx, Below wr.heap.size wr wx → ∀ x : Int, RowIn W0 (wx.setCell ⟨q, k, none⟩ (.int .i64 x)) g r c n row (ys.set k x) := by
  have hl := h.len
  rcases id h.own.2 with ⟨rfl, rfl⟩ | ⟨q, cap, cur, rfl, hq, hh, hn, hm, hs, ht⟩
  · omega
  · refine ⟨q, cap, rfl, ?_, ?_, fun wx hb x => ?_⟩
    · rw [h.own.cellAt k (by omega)]
      have : k < ys.length := by omega
      simp [this]
    · exact h.own.frozenAt k
    · have hx := h.later hb
      have hs := hx.own.stored k (.int .i64 x)
      have hqg : q < g := h.ne q rfl
      refine ⟨hx.keep.setCell hq _, ?_, ?_, h.ne, h.ge⟩
      · rw [heap_setCell_other _ _ _ _ (by simp; omega)]; exact hx.m
      · rw [List.map_set]; exact hs.1
theorem RowIn.of {W0 w1 : World} {r c n : Nat} {ao : Option Addr} {cap : Nat} {ys : List Int} (hb : Below W0.heap.size W0 w1) (ho : w1.ownsRow W0.heap.size 25 1 (.slice ao n cap) n (ys.map (Value.int .i64))) :
    RowIn W0 (w1.alloc (.cells #[.int .i64 r, .int .i64 c, .slice ao n cap] 24)) w1.heap.size r c n (.slice ao n cap) ys :=
  ⟨below_al hb _, heap_alloc_new _ _, ho.alloc _, fun k hk => (ho.lt k hk).2, hb.size⟩

/-- A row, told by its places. -/
def rowF (f : Nat → Int) (n : Nat) : List Int := (List.range n).map f
theorem rowF_zero (n : Nat) : List.replicate n (0 : Int) = rowF (fun _ => 0) n := by unfold rowF; rw [List.map_const']; simp
theorem rowF_ext {f g : Nat → Int} {n : Nat} (h : ∀ j, j < n → f j = g j) : rowF f n = rowF g n := by
  unfold rowF; exact List.map_congr_left fun j hj => h j (List.mem_range.1 hj)
theorem rowF_getD (f : Nat → Int) {n k : Nat} (hk : k < n) : (rowF f n).getD k 0 = f k := by simp [rowF, hk]
theorem rowF_set (f : Nat → Int) (n k : Nat) (x : Int) : (rowF f n).set k x = rowF (fun j => if j = k then x else f j) n := by
  apply List.ext_getElem?
  intro j
  unfold rowF
  rw [List.getElem?_set]
  by_cases hj : j < n
  · by_cases e : k = j
    · subst e; simp [hj]
    · have e' : ¬ j = k := fun h => e h.symm
      simp [hj, e, e']
  · by_cases e : k = j
    · subst e; simp [hj]
    · simp [hj, e]
theorem tab_rowF (g : Nat → Nat → Int) (c n : Nat) : tab g c n = rowF (fun j => g (j / c) (j % c)) n := rfl
theorem eachL_rowF (g : Int → Int → Int) (xs ys : List Int) (r c : Nat) : eachL g xs ys r c = rowF (fun j => g (xs.getD j 0) (ys.getD j 0)) (r * c) := by
  unfold eachL
  rw [tab_rowF]
  exact rowF_ext fun j _ => by simp only [Nat.div_add_mod']
theorem eachO_any (o : Int → Int → Bool) (xs ys : List Int) (r c : Nat) : eachO o xs ys r c = (List.range (r * c)).any fun j => o (xs.getD j 0) (ys.getD j 0) := by
  unfold eachO tabO
  simp only [Nat.div_add_mod']
def upto (F : Nat → Int) (k j : Nat) : Int := if j < k then F j else 0
theorem rowF_upto_set (F : Nat → Int) (n k : Nat) : (rowF (upto F k) n).set k (F k) = rowF (upto F (k + 1)) n := by
  rw [rowF_set]
  refine rowF_ext fun j _ => ?_
  unfold upto
  by_cases h1 : j = k
  · subst h1; simp
  · by_cases h2 : j < k
    · rw [if_neg h1, if_pos h2, if_pos (by omega)]
    · rw [if_neg h1, if_neg h2, if_neg (by omega)]
theorem rowF_upto_zero (F : Nat → Int) (n : Nat) : rowF (upto F 0) n = List.replicate n (0 : Int) := by rw [rowF_zero]; exact rowF_ext fun j _ => by simp [upto]
theorem rowF_upto_all (F : Nat → Int) (n : Nat) : rowF (upto F n) n = rowF F n := rowF_ext fun j hj => by simp [upto, hj]

theorem swap_eq {P : Program} {f : FuncId} {args : Array Value} {w : World} {v : Value} (h : Calls P f args w fun e w' => e = .returned v ∧ w = w') : Calls P f args w fun e w' => e = .returned v ∧ w' = w :=
  h.mono fun _ _ h => ⟨h.1, h.2.symm⟩

end Go.Proofs.Ytijohedhbbddjaa

namespace Go.Proofs.Ytijohedhbbddjaa
open Go.RowKit

set_option maxRecDepth 100000 in
set_option maxHeartbeats 1000000 in
theorem radd3_any (w : World) (r c : Nat) (v v' : Value) (xs ys : List Int) (h : MV w r c v xs) (h' : MV w r c v' ys) :
    Calls Try.prog 17 #[.agg #[.int .i64 r, .int .i64 c, v], .agg #[.int .i64 r, .int .i64 c, v']] w fun e w' =>
      ∃ ao cap, e = .returned (.tuple #[.agg #[.int .i64 r, .int .i64 c, .slice ao (r * c) cap], .bool (eachO addO xs ys r c), .int .i64 0]) ∧
        w'.ownsRow w.heap.size 25 1 (.slice ao (r * c) cap) (r * c) ((eachL addQ xs ys r c).map (Value.int .i64)) ∧ Below w.heap.size w w' := by
  obtain ⟨ao, cap, hv, -⟩ := id h.qs
  obtain ⟨bo, bcap, hv', -⟩ := id h'.qs
  subst hv
  subst hv'
  have hl := h.len
  have hl' : ys.length = xs.length := by rw [h.len, h'.len]
  have hr := h.hr
  have hc := h.hc
  rw [hl']
  have h64 : xs.length ≤ 64 := by rw [hl]; exact mat_len hr hc
  have H := Lib.hid h.qs
  have H' := Lib.hid h'.qs
  rw [hl'] at H'
  rw [eachL_rowF, eachO_any, ← hl]
  have HL := Lib.hid hl
  have HL' := Lib.hid hl'
  clear h h' hl hl'
  go_enter Try.func17, Try.ntmps17
  go_wp2_with fail
  obtain ⟨W0, hW0⟩ : ∃ W0, W0 = ((w.alloc (.cells #[.int .i64 r, .int .i64 c, .slice ao xs.length cap] 24)).alloc (.cells #[.int .i64 r, .int .i64 c, .slice bo xs.length bcap] 24)).alloc (.cells #[.int .i64 0, .int .i64 0, .slice none 0 0] 24) := ⟨_, rfl⟩
  rw [← hW0]
  have r0 := cells_later (w := W0) (a := ⟨w.heap.size, 0, none⟩) (v := .int .i64 r) (by rw [hW0]; simp [go_sem])
  have r1 := cells_later (w := W0) (a := ⟨w.heap.size, 1, none⟩) (v := .int .i64 c) (by rw [hW0]; simp [go_sem])
  have r2 := cells_later (w := W0) (a := ⟨w.heap.size, 2, none⟩) (v := .slice ao xs.length cap) (by rw [hW0]; simp [go_sem])
  have s2 := cells_later (w := W0) (a := ⟨w.heap.size + 1, 2, none⟩) (v := .slice bo xs.length bcap) (by rw [hW0]; simp [go_sem])
  have HQ : Hid (QS W0 (.slice ao xs.length cap) xs) := by rw [hW0]; exact H.out.later (below3 _ _ _ _)
  have HQ' : Hid (QS W0 (.slice bo xs.length bcap) ys) := by rw [hW0]; exact H'.out.later (below3 _ _ _ _)
  have HR : Hid (W0.heap[w.heap.size + 1 + 1]? = some (.cells #[.int .i64 0, .int .i64 0, .slice none 0 0] 24 (0, 0))) := by rw [hW0]; exact heap_at _ _ _ (by simp)
  have HBw : Hid (Below w.heap.size w W0) := by rw [hW0]; exact below3 _ _ _ _
  have hsz : w.heap.size + 1 + 1 < W0.heap.size := by rw [hW0]; simp
  clear hW0
  have HB0 := Below.refl W0.heap.size W0
  have q0 := r0 _ HB0
  have q1 := r1 _ HB0
  go_wp2_with (go_at_call 77; refine (none_any W0 r c hr hc).mono ?_; rintro e w1 ⟨ao1, cap1, rfl, hown1, hb1⟩)
  have hI := RowIn.of (r := r) (c := c) hb1 hown1
  obtain ⟨g, hg⟩ : ∃ g, g = w1.heap.size := ⟨_, rfl⟩
  obtain ⟨wr1, hwr1⟩ : ∃ wr, wr = w1.alloc (.cells #[.int .i64 r, .int .i64 c, .slice ao1 (r * c) cap1] 24) := ⟨_, rfl⟩
  rw [← hg, ← hwr1] at hI
  rw [← hg, ← hwr1]
  clear hown1 hb1 hg hwr1 q0 q1
  rw [← HL.out] at hI ⊢
  rw [← rowF_upto_zero (fun j => addQ (xs.getD j 0) (ys.getD j 0))] at hI
  go_loopg [8, 9] xs.length (fun n od kv wr => ∃ k : Nat, k ≤ xs.length ∧ n = xs.length - k ∧ kv = .int .i64 k ∧ od = .bool ((List.range k).any fun j => addO (xs.getD j 0) (ys.getD j 0)) ∧ RowIn W0 wr g r c xs.length (.slice ao1 xs.length cap1) (rowF (upto (fun j => addQ (xs.getD j 0) (ys.getD j 0)) k) xs.length))
  case atStart => exact ⟨0, by omega, by omega, rfl, rfl, hI⟩
  case round =>
    clear hI
    obtain ⟨k, hk, rfl, rfl, rfl, hI⟩ := hrel
    have HI := Lib.hid hI
    have hkeep := hI.keep
    have r2 := r2 _ hkeep
    have s2 := s2 _ hkeep
    have m0 := cell_of_row _ _ 0 _ _ _ hI.m
    have m1 := cell_of_row _ _ 1 _ _ _ hI.m
    have m2 := cell_of_row _ _ 2 _ _ _ hI.m
    simp only [List.getElem?_toArray, List.getElem?_cons_succ, List.getElem?_cons_zero] at m0 m1 m2
    clear hI hkeep
    by_cases hlt : k < xs.length
    · have hlt' : k < ys.length := by rw [HL'.out]; exact hlt
      have hq := HQ.out
      have hq' := HQ'.out
      obtain ⟨b, off, rfl, hc1⟩ := qs_cell hq hlt
      rw [← HL'.out] at hq'
      obtain ⟨b', off', rfl, hc2⟩ := qs_cell hq' hlt'
      have hc1 := cell_later HI.out.keep hc1
      have hc2 := cell_later HI.out.keep hc2
      obtain ⟨q, cap2, he, hcq, hfq, hset⟩ := HI.out.at hlt
      have HE := Lib.hid he
      injection he with he1 he2 he3
      subst he1
      subst he3
      have HS := Lib.hid hset
      have hx : xs.getD k 0 = xs[k] := by simp [hlt]
      have hy : ys.getD k 0 = ys[k] := by simp [hlt']
      have HX := Lib.hid hx
      have HY := Lib.hid hy
      obtain ⟨x, hxe⟩ : ∃ x, xs[k] = x := ⟨_, rfl⟩
      obtain ⟨y, hye⟩ : ∃ y, ys[k] = y := ⟨_, rfl⟩
      rw [hxe] at hc1 HX
      rw [hye] at hc2 HY
      have hk0 : (0 : Int) ≤ (k : Int) := by omega
      have hk1 : (k : Int) < (xs.length : Int) := by omega
      obtain ⟨od, hod⟩ : ∃ od, (List.range k).any (fun j => addO (xs.getD j 0) (ys.getD j 0)) = od := ⟨_, rfl⟩
      have HOD := Lib.hid hod
      rw [hod]
      clear hset hxe hye he2 hq hq' hx hy hod
      go_wp2_with fail
      go_quiet (first | (go_at_call 38; refine Calls.quiet_of_same (swap_eq (radd_any _ _ _))))
      go_wp2_with fail
      all_goals
        go_roundg (xs.length - (k + 1))
        case measure => omega
        case rel =>
          refine ⟨k + 1, by omega, rfl, by go_num, ?_, ?_⟩
          · simp only [List.range_succ, List.any_append, HOD.out, List.any_cons, List.any_nil, HX.out, HY.out, Bool.or_false]
            first | (rw [‹od = true›]; rfl) | (rw [‹od = false›]; rfl)
          · have := HS.out _ (below_drewN' (Below.refl _ _) nq) (addQ x y)
            rw [show addQ x y = (fun j => addQ (xs.getD j 0) (ys.getD j 0)) k by show _ = addQ _ _; rw [HX.out, HY.out], rowF_upto_set] at this
            rw [show addQ x y = (fun j => addQ (xs.getD j 0) (ys.getD j 0)) k by show _ = addQ _ _; rw [HX.out, HY.out]]
            exact this
    · have hkl : k = xs.length := by omega
      subst hkl
      have hR := block_later HR.out HI.out.keep
      have t0 := cell_of_row _ _ 0 _ _ _ hR
      have t1 := cell_of_row _ _ 1 _ _ _ hR
      have t2 := cell_of_row _ _ 2 _ _ _ hR
      simp only [List.getElem?_toArray, List.getElem?_cons_succ, List.getElem?_cons_zero] at t0 t1 t2
      have f0 := frozen_of_row _ _ 0 _ _ hR
      have f1 := frozen_of_row _ _ 1 _ _ hR
      have f2 := frozen_of_row _ _ 2 _ _ hR
      have hbk := HI.out.keep
      have hs1 := hbk.size
      have ho := HI.out.own
      rw [rowF_upto_all] at ho
      obtain ⟨od, hod⟩ : ∃ od, (List.range xs.length).any (fun j => addO (xs.getD j 0) (ys.getD j 0)) = od := ⟨_, rfl⟩
      have HOD := Lib.hid hod
      rw [hod]
      clear hod
      go_wp2_with fail
      refine bodyPost_ret (results_row2 rfl _ _ _ _ _ _ _ rfl (heap_store3 _ _ _ _ _ (.int .i64 r) (.int .i64 c) (.slice ao1 xs.length cap1) _ hR) Try.underlying24 rfl (by kernel_rfl)) rfl ⟨ao1, cap1, by rw [HOD.out]; rfl, ?_, ?_⟩
      · exact ownsRow_base (owns_set3 ho (by omega) _ _ _) (by omega)
      · exact below_set3 (below_tr2 hbk HBw.out) (by omega) _ _ _

set_option maxRecDepth 100000 in
set_option maxHeartbeats 1000000 in
theorem rsub3_any (w : World) (r c : Nat) (v v' : Value) (xs ys : List Int) (h : MV w r c v xs) (h' : MV w r c v' ys) :
    Calls Try.prog 19 #[.agg #[.int .i64 r, .int .i64 c, v], .agg #[.int .i64 r, .int .i64 c, v']] w fun e w' =>
      ∃ ao cap, e = .returned (.tuple #[.agg #[.int .i64 r, .int .i64 c, .slice ao (r * c) cap], .bool (eachO subO xs ys r c), .int .i64 0]) ∧
        w'.ownsRow w.heap.size 25 1 (.slice ao (r * c) cap) (r * c) ((eachL subQ xs ys r c).map (Value.int .i64)) ∧ Below w.heap.size w w' := by
  obtain ⟨ao, cap, hv, -⟩ := id h.qs
  obtain ⟨bo, bcap, hv', -⟩ := id h'.qs
  subst hv
  subst hv'
  have hl := h.len
  have hl' : ys.length = xs.length := by rw [h.len, h'.len]
  have hr := h.hr
  have hc := h.hc
  rw [hl']
  have h64 : xs.length ≤ 64 := by rw [hl]; exact mat_len hr hc
  have H := Lib.hid h.qs
  have H' := Lib.hid h'.qs
  rw [hl'] at H'
  rw [eachL_rowF, eachO_any, ← hl]
  have HL := Lib.hid hl
  have HL' := Lib.hid hl'
  clear h h' hl hl'
  go_enter Try.func19, Try.ntmps19
  go_wp2_with fail
  obtain ⟨W0, hW0⟩ : ∃ W0, W0 = ((w.alloc (.cells #[.int .i64 r, .int .i64 c, .slice ao xs.length cap] 24)).alloc (.cells #[.int .i64 r, .int .i64 c, .slice bo xs.length bcap] 24)).alloc (.cells #[.int .i64 0, .int .i64 0, .slice none 0 0] 24) := ⟨_, rfl⟩
  rw [← hW0]
  have r0 := cells_later (w := W0) (a := ⟨w.heap.size, 0, none⟩) (v := .int .i64 r) (by rw [hW0]; simp [go_sem])
  have r1 := cells_later (w := W0) (a := ⟨w.heap.size, 1, none⟩) (v := .int .i64 c) (by rw [hW0]; simp [go_sem])
  have r2 := cells_later (w := W0) (a := ⟨w.heap.size, 2, none⟩) (v := .slice ao xs.length cap) (by rw [hW0]; simp [go_sem])
  have s2 := cells_later (w := W0) (a := ⟨w.heap.size + 1, 2, none⟩) (v := .slice bo xs.length bcap) (by rw [hW0]; simp [go_sem])
  have HQ : Hid (QS W0 (.slice ao xs.length cap) xs) := by rw [hW0]; exact H.out.later (below3 _ _ _ _)
  have HQ' : Hid (QS W0 (.slice bo xs.length bcap) ys) := by rw [hW0]; exact H'.out.later (below3 _ _ _ _)
  have HR : Hid (W0.heap[w.heap.size + 1 + 1]? = some (.cells #[.int .i64 0, .int .i64 0, .slice none 0 0] 24 (0, 0))) := by rw [hW0]; exact heap_at _ _ _ (by simp)
  have HBw : Hid (Below w.heap.size w W0) := by rw [hW0]; exact below3 _ _ _ _
  have hsz : w.heap.size + 1 + 1 < W0.heap.size := by rw [hW0]; simp
  clear hW0
  have HB0 := Below.refl W0.heap.size W0
  have q0 := r0 _ HB0
  have q1 := r1 _ HB0
  go_wp2_with (go_at_call 77; refine (none_any W0 r c hr hc).mono ?_; rintro e w1 ⟨ao1, cap1, rfl, hown1, hb1⟩)
  have hI := RowIn.of (r := r) (c := c) hb1 hown1
  obtain ⟨g, hg⟩ : ∃ g, g = w1.heap.size := ⟨_, rfl⟩
  obtain ⟨wr1, hwr1⟩ : ∃ wr, wr = w1.alloc (.cells #[.int .i64 r, .int .i64 c, .slice ao1 (r * c) cap1] 24) := ⟨_, rfl⟩
  rw [← hg, ← hwr1] at hI
  rw [← hg, ← hwr1]
  clear hown1 hb1 hg hwr1 q0 q1
  rw [← HL.out] at hI ⊢
  rw [← rowF_upto_zero (fun j => subQ (xs.getD j 0) (ys.getD j 0))] at hI
  go_loopg [8, 9] xs.length (fun n od kv wr => ∃ k : Nat, k ≤ xs.length ∧ n = xs.length - k ∧ kv = .int .i64 k ∧ od = .bool ((List.range k).any fun j => subO (xs.getD j 0) (ys.getD j 0)) ∧ RowIn W0 wr g r c xs.length (.slice ao1 xs.length cap1) (rowF (upto (fun j => subQ (xs.getD j 0) (ys.getD j 0)) k) xs.length))
  case atStart => exact ⟨0, by omega, by omega, rfl, rfl, hI⟩
  case round =>
    clear hI
    obtain ⟨k, hk, rfl, rfl, rfl, hI⟩ := hrel
    have HI := Lib.hid hI
    have hkeep := hI.keep
    have r2 := r2 _ hkeep
    have s2 := s2 _ hkeep
    have m0 := cell_of_row _ _ 0 _ _ _ hI.m
    have m1 := cell_of_row _ _ 1 _ _ _ hI.m
    have m2 := cell_of_row _ _ 2 _ _ _ hI.m
    simp only [List.getElem?_toArray, List.getElem?_cons_succ, List.getElem?_cons_zero] at m0 m1 m2
    clear hI hkeep
    by_cases hlt : k < xs.length
    · have hlt' : k < ys.length := by rw [HL'.out]; exact hlt
      have hq := HQ.out
      have hq' := HQ'.out
      obtain ⟨b, off, rfl, hc1⟩ := qs_cell hq hlt
      rw [← HL'.out] at hq'
      obtain ⟨b', off', rfl, hc2⟩ := qs_cell hq' hlt'
      have hc1 := cell_later HI.out.keep hc1
      have hc2 := cell_later HI.out.keep hc2
      obtain ⟨q, cap2, he, hcq, hfq, hset⟩ := HI.out.at hlt
      have HE := Lib.hid he
      injection he with he1 he2 he3
      subst he1
      subst he3
      have HS := Lib.hid hset
      have hx : xs.getD k 0 = xs[k] := by simp [hlt]
      have hy : ys.getD k 0 = ys[k] := by simp [hlt']
      have HX := Lib.hid hx
      have HY := Lib.hid hy
      obtain ⟨x, hxe⟩ : ∃ x, xs[k] = x := ⟨_, rfl⟩
      obtain ⟨y, hye⟩ : ∃ y, ys[k] = y := ⟨_, rfl⟩
      rw [hxe] at hc1 HX
      rw [hye] at hc2 HY
      have hk0 : (0 : Int) ≤ (k : Int) := by omega
      have hk1 : (k : Int) < (xs.length : Int) := by omega
      obtain ⟨od, hod⟩ : ∃ od, (List.range k).any (fun j => subO (xs.getD j 0) (ys.getD j 0)) = od := ⟨_, rfl⟩
      have HOD := Lib.hid hod
      rw [hod]
      clear hset hxe hye he2 hq hq' hx hy hod
      go_wp2_with fail
      go_quiet (first | (go_at_call 40; refine Calls.quiet_of_same (swap_eq (rsub_any _ _ _))))
      go_wp2_with fail
      all_goals
        go_roundg (xs.length - (k + 1))
        case measure => omega
        case rel =>
          refine ⟨k + 1, by omega, rfl, by go_num, ?_, ?_⟩
          · simp only [List.range_succ, List.any_append, HOD.out, List.any_cons, List.any_nil, HX.out, HY.out, Bool.or_false]
            first | (rw [‹od = true›]; rfl) | (rw [‹od = false›]; rfl)
          · have := HS.out _ (below_drewN' (Below.refl _ _) nq) (subQ x y)
            rw [show subQ x y = (fun j => subQ (xs.getD j 0) (ys.getD j 0)) k by show _ = subQ _ _; rw [HX.out, HY.out], rowF_upto_set] at this
            rw [show subQ x y = (fun j => subQ (xs.getD j 0) (ys.getD j 0)) k by show _ = subQ _ _; rw [HX.out, HY.out]]
            exact this
    · have hkl : k = xs.length := by omega
      subst hkl
      have hR := block_later HR.out HI.out.keep
      have t0 := cell_of_row _ _ 0 _ _ _ hR
      have t1 := cell_of_row _ _ 1 _ _ _ hR
      have t2 := cell_of_row _ _ 2 _ _ _ hR
      simp only [List.getElem?_toArray, List.getElem?_cons_succ, List.getElem?_cons_zero] at t0 t1 t2
      have f0 := frozen_of_row _ _ 0 _ _ hR
      have f1 := frozen_of_row _ _ 1 _ _ hR
      have f2 := frozen_of_row _ _ 2 _ _ hR
      have hbk := HI.out.keep
      have hs1 := hbk.size
      have ho := HI.out.own
      rw [rowF_upto_all] at ho
      obtain ⟨od, hod⟩ : ∃ od, (List.range xs.length).any (fun j => subO (xs.getD j 0) (ys.getD j 0)) = od := ⟨_, rfl⟩
      have HOD := Lib.hid hod
      rw [hod]
      clear hod
      go_wp2_with fail
      refine bodyPost_ret (results_row2 rfl _ _ _ _ _ _ _ rfl (heap_store3 _ _ _ _ _ (.int .i64 r) (.int .i64 c) (.slice ao1 xs.length cap1) _ hR) Try.underlying24 rfl (by kernel_rfl)) rfl ⟨ao1, cap1, by rw [HOD.out]; rfl, ?_, ?_⟩
      · exact ownsRow_base (owns_set3 ho (by omega) _ _ _) (by omega)
      · exact below_set3 (below_tr2 hbk HBw.out) (by omega) _ _ _

set_option maxRecDepth 100000 in
set_option maxHeartbeats 1000000 in
theorem radd3_no (w : World) (r c r' c' : Int) (ao bo : Option Addr) (n m cap cap' : Nat) (hne : ¬ (r = r' ∧ c = c')) :
    Calls Try.prog 17 #[.agg #[.int .i64 r, .int .i64 c, .slice ao n cap], .agg #[.int .i64 r', .int .i64 c', .slice bo m cap']] w fun e w' =>
      e = .returned (.tuple #[.agg #[.int .i64 0, .int .i64 0, .slice none 0 0], .bool false, .int .i64 9]) ∧ Below w.heap.size w w' := by
  by_cases h1 : r = r'
  · subst h1
    have h2 : (c != c') = true := by simpa using fun e => hne ⟨rfl, e⟩
    clear hne
    go_enter Try.func17, Try.ntmps17
    go_wp2_with fail
    exact bodyPost_ret (results_row2 rfl _ _ _ _ _ _ _ rfl (heap_at _ _ _ (by simp)) Try.underlying24 rfl (by kernel_rfl)) rfl ⟨rfl, below3 _ _ _ _⟩
  · have h2 : (r != r') = true := by simpa using h1
    clear hne
    go_enter Try.func17, Try.ntmps17
    go_wp2_with fail
    exact bodyPost_ret (results_row2 rfl _ _ _ _ _ _ _ rfl (heap_at _ _ _ (by simp)) Try.underlying24 rfl (by kernel_rfl)) rfl ⟨rfl, below3 _ _ _ _⟩

set_option maxRecDepth 100000 in
set_option maxHeartbeats 1000000 in
theorem rsub3_no (w : World) (r c r' c' : Int) (ao bo : Option Addr) (n m cap cap' : Nat) (hne : ¬ (r = r' ∧ c = c')) :
    Calls Try.prog 19 #[.agg #[.int .i64 r, .int .i64 c, .slice ao n cap], .agg #[.int .i64 r', .int .i64 c', .slice bo m cap']] w fun e w' =>
      e = .returned (.tuple #[.agg #[.int .i64 0, .int .i64 0, .slice none 0 0], .bool false, .int .i64 9]) ∧ Below w.heap.size w w' := by
  by_cases h1 : r = r'
  · subst h1
    have h2 : (c != c') = true := by simpa using fun e => hne ⟨rfl, e⟩
    clear hne
    go_enter Try.func19, Try.ntmps19
    go_wp2_with fail
    exact bodyPost_ret (results_row2 rfl _ _ _ _ _ _ _ rfl (heap_at _ _ _ (by simp)) Try.underlying24 rfl (by kernel_rfl)) rfl ⟨rfl, below3 _ _ _ _⟩
  · have h2 : (r != r') = true := by simpa using h1
    clear hne
    go_enter Try.func19, Try.ntmps19
    go_wp2_with fail
    exact bodyPost_ret (results_row2 rfl _ _ _ _ _ _ _ rfl (heap_at _ _ _ (by simp)) Try.underlying24 rfl (by kernel_rfl)) rfl ⟨rfl, below3 _ _ _ _⟩

end Go.Proofs.Ytijohedhbbddjaa

namespace Go.Proofs.Ytijohedhbbddjaa
open Go.RowKit

def upto3 (F : Nat → Int) (n : Nat) (x : Int) (j : Nat) : Int := if j < n then F j else if j = n then x else 0
theorem upto3_zero (F : Nat → Int) (n p : Nat) : rowF (upto3 F n 0) p = rowF (upto F n) p := rowF_ext fun j _ => by unfold upto3 upto; split <;> simp
theorem upto3_full (F : Nat → Int) (n p : Nat) : rowF (upto3 F n (F n)) p = rowF (upto F (n + 1)) p := rowF_ext fun j _ => by
  unfold upto3 upto
  by_cases h1 : j < n
  · rw [if_pos h1, if_pos (by omega)]
  · by_cases h2 : j = n
    · subst h2; simp
    · rw [if_neg h1, if_neg h2, if_neg (by omega)]
theorem upto3_set (F : Nat → Int) (n p : Nat) (x y : Int) : (rowF (upto3 F n x) p).set n y = rowF (upto3 F n y) p := by
  rw [rowF_set]
  refine rowF_ext fun j _ => ?_
  unfold upto3
  by_cases h2 : j = n
  · subst h2; simp
  · by_cases h1 : j < n
    · rw [if_neg h2, if_pos h1, if_pos h1]
    · rw [if_neg h2, if_neg h1, if_neg h2, if_neg h1, if_neg h2]
theorem upto3_at (F : Nat → Int) (n p : Nat) (x : Int) (h : n < p) : (rowF (upto3 F n x) p).getD n 0 = x := by
  rw [rowF_getD _ h]; unfold upto3; simp
theorem div_mod_at {i k c : Nat} (hk : k < c) : (i * c + k) / c = i ∧ (i * c + k) % c = k := by
  constructor
  · rw [Nat.mul_comm, Nat.mul_add_div (by omega), Nat.div_eq_of_lt hk]; rfl
  · rw [Nat.mul_comm, Nat.mul_add_mod, Nat.mod_eq_of_lt hk]

set_option maxRecDepth 100000 in
set_option maxHeartbeats 2000000 in
theorem rmul3_any (w : World) (r m c : Nat) (v v' : Value) (xs ys : List Int) (h : MV w r m v xs) (h' : MV w m c v' ys) :
    Calls Try.prog 21 #[.agg #[.int .i64 r, .int .i64 m, v], .agg #[.int .i64 m, .int .i64 c, v']] w fun e w' =>
      ∃ ao cap, e = .returned (.tuple #[.agg #[.int .i64 r, .int .i64 c, .slice ao (r * c) cap], .bool (mulLO xs ys r m c), .int .i64 0]) ∧
        w'.ownsRow w.heap.size 25 1 (.slice ao (r * c) cap) (r * c) ((mulL xs ys r m c).map (Value.int .i64)) ∧ Below w.heap.size w w' := by
  obtain ⟨ao, cap, hv, -⟩ := id h.qs
  obtain ⟨bo, bcap, hv', -⟩ := id h'.qs
  subst hv
  subst hv'
  have hl := h.len
  have hl' := h'.len
  have hr := h.hr
  have hm := h.hc
  have hc := h'.hc
  have h64 : xs.length ≤ 64 := by rw [hl]; exact mat_len hr hm
  have h64' : ys.length ≤ 64 := by rw [hl']; exact mat_len hm hc
  have hrc : r * c ≤ 64 := mat_len hr hc
  have H := Lib.hid h.qs
  have H' := Lib.hid h'.qs
  have HL := Lib.hid hl
  have HL' := Lib.hid hl'
  have HRC := Lib.hid hrc
  clear h h' hl hl' hrc
  obtain ⟨D, hD⟩ : ∃ D : Nat → Int, D = fun n => (dotL xs ys m c (n / c) (n % c)).1 := ⟨_, rfl⟩
  obtain ⟨O, hO⟩ : ∃ O : Nat → Nat → Bool, O = fun i k => (dotL xs ys m c i k).2 := ⟨_, rfl⟩
  rw [show mulL xs ys r m c = rowF D (r * c) by rw [hD]; rfl, show mulLO xs ys r m c = tabO O c (r * c) by rw [hO]; rfl]
  have HD : Hid (∀ i k, k < c → D (i * c + k) = (dotL xs ys m c i k).1) := by
    intro i k hk
    rw [hD]
    show (dotL xs ys m c _ _).1 = _
    rw [(div_mod_at hk).1, (div_mod_at hk).2]
  have HO : Hid (∀ i k, O i k = (dotL xs ys m c i k).2) := by rw [hO]; exact fun _ _ => rfl
  clear hD hO
  have e7 : ∀ x y : Int, (x == y) = decide (x = y) := fun _ _ => rfl
  go_enter Try.func21, Try.ntmps21
  go_wp2_with fail
  obtain ⟨W0, hW0⟩ : ∃ W0, W0 = ((w.alloc (.cells #[.int .i64 r, .int .i64 m, .slice ao xs.length cap] 24)).alloc (.cells #[.int .i64 m, .int .i64 c, .slice bo ys.length bcap] 24)).alloc (.cells #[.int .i64 0, .int .i64 0, .slice none 0 0] 24) := ⟨_, rfl⟩
  rw [← hW0]
  have r0 := cells_later (w := W0) (a := ⟨w.heap.size, 0, none⟩) (v := .int .i64 r) (by rw [hW0]; simp [go_sem])
  have r1 := cells_later (w := W0) (a := ⟨w.heap.size, 1, none⟩) (v := .int .i64 m) (by rw [hW0]; simp [go_sem])
  have r2 := cells_later (w := W0) (a := ⟨w.heap.size, 2, none⟩) (v := .slice ao xs.length cap) (by rw [hW0]; simp [go_sem])
  have s1 := cells_later (w := W0) (a := ⟨w.heap.size + 1, 1, none⟩) (v := .int .i64 c) (by rw [hW0]; simp [go_sem])
  have s2 := cells_later (w := W0) (a := ⟨w.heap.size + 1, 2, none⟩) (v := .slice bo ys.length bcap) (by rw [hW0]; simp [go_sem])
  have HQ : Hid (QS W0 (.slice ao xs.length cap) xs) := by rw [hW0]; exact H.out.later (below3 _ _ _ _)
  have HQ' : Hid (QS W0 (.slice bo ys.length bcap) ys) := by rw [hW0]; exact H'.out.later (below3 _ _ _ _)
  have HR : Hid (W0.heap[w.heap.size + 1 + 1]? = some (.cells #[.int .i64 0, .int .i64 0, .slice none 0 0] 24 (0, 0))) := by rw [hW0]; exact heap_at _ _ _ (by simp)
  have HBw : Hid (Below w.heap.size w W0) := by rw [hW0]; exact below3 _ _ _ _
  have hsz : w.heap.size + 1 + 1 < W0.heap.size := by rw [hW0]; simp
  clear hW0
  have HB0 := Below.refl W0.heap.size W0
  have q0 := r0 _ HB0
  have q1 := s1 _ HB0
  go_wp2_with (go_at_call 77; refine (none_any W0 r c hr hc).mono ?_; rintro e w1 ⟨ao1, cap1, rfl, hown1, hb1⟩)
  have hI := RowIn.of (r := r) (c := c) hb1 hown1
  obtain ⟨g, hg⟩ : ∃ g, g = w1.heap.size := ⟨_, rfl⟩
  obtain ⟨wr1, hwr1⟩ : ∃ wr, wr = w1.alloc (.cells #[.int .i64 r, .int .i64 c, .slice ao1 (r * c) cap1] 24) := ⟨_, rfl⟩
  rw [← hg, ← hwr1] at hI
  rw [← hg, ← hwr1]
  clear hown1 hb1 hg hwr1 q0 q1
  obtain ⟨p, hp⟩ : ∃ p, r * c = p := ⟨_, rfl⟩
  have HP := Lib.hid hp
  rw [hp] at hI ⊢
  rw [← rowF_upto_zero D] at hI
  have hp64 : p ≤ 64 := by rw [← hp]; exact HRC.out
  clear hp
  go_loopg [8, 9] r (fun n od iv wr => ∃ i : Nat, i ≤ r ∧ n = r - i ∧ iv = .int .i64 i ∧ od = .bool (tabO O c (i * c)) ∧ RowIn W0 wr g r c p (.slice ao1 p cap1) (rowF (upto D (i * c)) p))
  case atStart => exact ⟨0, by omega, by omega, rfl, by simp [tabO], by simpa using hI⟩
  case round =>
    clear hI
    obtain ⟨i, hi, rfl, rfl, rfl, hI⟩ := hrel
    have HI := Lib.hid hI
    have hkeep := hI.keep
    have k0 := r0 _ hkeep
    clear hI hkeep
    by_cases hlti : i < r
    · go_wp2_with fail
      go_loopg [8, 10] c (fun n od kv wr => ∃ k : Nat, k ≤ c ∧ n = c - k ∧ kv = .int .i64 k ∧ od = .bool (tabO O c (i * c + k)) ∧ RowIn W0 wr g r c p (.slice ao1 p cap1) (rowF (upto D (i * c + k)) p))
      case atStart => exact ⟨0, by omega, by omega, rfl, rfl, HI.out⟩
      case round =>
        clear HI k0
        obtain ⟨k, hk, rfl, rfl, rfl, hI⟩ := hrel
        have HI := Lib.hid hI
        have hkeep := hI.keep
        have k1 := s1 _ hkeep
        clear hI hkeep
        by_cases hltk : k < c
        · obtain ⟨C0, hC0⟩ : ∃ C0 : Nat, C0 = i * c := ⟨_, rfl⟩
          have hN : C0 + k < p := by rw [hC0, ← HP.out]; exact idx_lt hlti hltk
          have eC : (i : Int) * (c : Int) = (C0 : Int) := by rw [hC0]; simp
          obtain ⟨N, hNe⟩ : ∃ N, N = C0 + k := ⟨_, rfl⟩
          have eN : (C0 : Int) + (k : Int) = (N : Int) := by rw [hNe]; simp
          have hNp : N < p := by omega
          obtain ⟨F, hF⟩ : ∃ F : Nat → Int, F = fun j => xs.getD (i * m + j) 0 := ⟨_, rfl⟩
          obtain ⟨G, hG⟩ : ∃ G : Nat → Int, G = fun j => ys.getD (j * c + k) 0 := ⟨_, rfl⟩
          have HDot : Hid (dotL xs ys m c i k = dotS F G m) := by rw [hF, hG]; rfl
          have HF : Hid (∀ j, xs.getD (i * m + j) 0 = F j) := by subst hF; exact fun _ => rfl
          have HG : Hid (∀ j, ys.getD (j * c + k) 0 = G j) := by subst hG; exact fun _ => rfl
          have HNe : Hid (i * c + k = N) := by rw [hNe, hC0]; exact rfl
          obtain ⟨T, hT⟩ : ∃ T, tabO O c (i * c + k) = T := ⟨_, rfl⟩
          have HT := Lib.hid hT
          rw [hT]
          clear hT hC0 hNe hF hG hN
          go_wp2_with fail
          go_loopg [8, 12] m (fun n od jv wr => ∃ j : Nat, j ≤ m ∧ n = m - j ∧ jv = .int .i64 j ∧ od = .bool (T || (dotS F G j).2) ∧ RowIn W0 wr g r c p (.slice ao1 p cap1) (rowF (upto3 D N (dotS F G j).1) p))
          case atStart => exact ⟨0, by omega, by omega, rfl, by simp [dotS], by have := HI.out; rw [HNe.out] at this; show RowIn _ _ _ _ _ _ _ (rowF (upto3 D N 0) p); rw [upto3_zero]; exact this⟩
          case round =>
            clear HI k1
            obtain ⟨j, hj, rfl, rfl, rfl, hI⟩ := hrel
            have HI := Lib.hid hI
            have hkeep := hI.keep
            have r1 := r1 _ hkeep
            have r2 := r2 _ hkeep
            have s1 := s1 _ hkeep
            have s2 := s2 _ hkeep
            have m2 := cell_of_row _ _ 2 _ _ _ hI.m
            simp only [List.getElem?_toArray, List.getElem?_cons_succ, List.getElem?_cons_zero] at m2
            clear hI hkeep
            by_cases hltj : j < m
            · obtain ⟨A0, hA0⟩ : ∃ A0 : Nat, A0 = i * m := ⟨_, rfl⟩
              obtain ⟨B0, hB0⟩ : ∃ B0 : Nat, B0 = j * c := ⟨_, rfl⟩
              have hA : A0 + j < xs.length := by rw [hA0, HL.out]; exact idx_lt hlti hltj
              have hB : B0 + k < ys.length := by rw [hB0, HL'.out]; exact idx_lt hltj hltk
              have eA0 : (i : Int) * (m : Int) = (A0 : Int) := by rw [hA0]; simp
              have eB0 : (j : Int) * (c : Int) = (B0 : Int) := by rw [hB0]; simp
              have hx : xs.getD (A0 + j) 0 = F j := by rw [hA0]; exact HF.out j
              have hy : ys.getD (B0 + k) 0 = G j := by rw [hB0]; exact HG.out j
              obtain ⟨A, hAe⟩ : ∃ A, A = A0 + j := ⟨_, rfl⟩
              obtain ⟨B, hBe⟩ : ∃ B, B = B0 + k := ⟨_, rfl⟩
              have eA : (A0 : Int) + (j : Int) = (A : Int) := by rw [hAe]; simp
              have eB : (B0 : Int) + (k : Int) = (B : Int) := by rw [hBe]; simp
              rw [← hAe] at hx hA
              rw [← hBe] at hy hB
              obtain ⟨b, off, rfl, hc1⟩ := qs_cell HQ.out hA
              obtain ⟨b', off', rfl, hc2⟩ := qs_cell HQ'.out hB
              have hc1 := cell_later HI.out.keep hc1
              have hc2 := cell_later HI.out.keep hc2
              have hx' : xs[A] = F j := by rw [← hx]; simp [hA]
              have hy' : ys[B] = G j := by rw [← hy]; simp [hB]
              rw [hx'] at hc1
              rw [hy'] at hc2
              obtain ⟨q, cap2, he, hcq, hfq, hset⟩ := HI.out.at hNp
              rw [upto3_at _ _ _ _ hNp] at hcq
              have HE := Lib.hid he
              injection he with he1 he2 he3
              subst he1
              subst he3
              have HS := Lib.hid hset
              have hA1 : (A : Int) < (xs.length : Int) := by omega
              have hB1 : (B : Int) < (ys.length : Int) := by omega
              have hN1 : (N : Int) < (p : Int) := by omega
              have hA2 : (A0 : Int) ≤ 64 := by omega
              have hB2 : (B0 : Int) ≤ 64 := by omega
              clear hset he2 hx hy hx' hy' hA0 hB0 hAe hBe
              obtain ⟨f, hf⟩ : ∃ f, F j = f := ⟨_, rfl⟩
              obtain ⟨f', hf'⟩ : ∃ f, G j = f := ⟨_, rfl⟩
              obtain ⟨d, hd⟩ : ∃ d, dotS F G j = d := ⟨_, rfl⟩
              have HDJ : Hid (dotS F G (j + 1) = (addQ d.1 (mulQ f f'), ((d.2 || mulO f f') || addO d.1 (mulQ f f')))) := by rw [← hd, ← hf, ← hf']; exact rfl
              rw [hf] at hc1
              rw [hf'] at hc2
              rw [hd] at hcq ⊢
              clear hf hf' hd
              go_wp2_with fail
              go_quiet (first | (go_at_call 14; refine Calls.quiet_of_same (swap_eq (rmul_any _ _ _))))
              go_wp2_with (go_at_call 38; refine (radd_any _ _ _).mono ?_; rintro e w' ⟨rfl, rfl⟩)
              all_goals
                go_roundg (m - (j + 1))
                case measure => omega
                case rel =>
                  have e : (T || ((d.2 || mulO f f') || addO d.1 (mulQ f f'))) = (((T || d.2) || mulO f f') || addO d.1 (mulQ f f')) := by simp only [Bool.or_assoc]
                  refine ⟨j + 1, by omega, rfl, by go_num, ?_, ?_⟩
                  · rw [HDJ.out]
                    show _ = Value.bool (T || ((d.2 || mulO f f') || addO d.1 (mulQ f f')))
                    rw [e]
                    first | (refine Or.elim ‹T = true ∨ d.2 = true› (fun h => ?_) (fun h => ?_) <;> (rw [h]; simp)) | (rw [(‹T = false ∧ d.2 = false›).1, (‹T = false ∧ d.2 = false›).2, ‹mulO f f' = true›]; rfl) | (rw [(‹T = false ∧ d.2 = false›).1, (‹T = false ∧ d.2 = false›).2, ‹mulO f f' = false›]; rfl)
                  · have := HS.out _ (below_drewN' (Below.refl _ _) nq) (addQ d.1 (mulQ f f'))
                    rw [upto3_set] at this
                    rw [HDJ.out]
                    exact this
            · have hjm : j = m := by omega
              subst hjm
              go_wp2_with fail
              go_roundg (c - (k + 1))
              case measure => omega
              case rel =>
                refine ⟨k + 1, by omega, rfl, by go_num, ?_, ?_⟩
                · rw [← Nat.add_assoc, tabO_succ _ _ _ _ hltk, HT.out, HO.out, HDot.out]
                · have := HI.out
                  have hd := HD.out i k hltk
                  rw [HNe.out, HDot.out] at hd
                  rw [← hd, upto3_full] at this
                  rw [← Nat.add_assoc, HNe.out]
                  exact this
        · have hkc : k = c := by omega
          subst hkc
          go_wp2_with fail
          go_roundg (r - (i + 1))
          case measure => omega
          case rel => exact ⟨i + 1, by omega, rfl, by go_num, by rw [Nat.add_mul, Nat.one_mul], by rw [Nat.add_mul, Nat.one_mul]; exact HI.out⟩
    · have hir : i = r := by omega
      subst hir
      have hR := block_later HR.out HI.out.keep
      have t0 := cell_of_row _ _ 0 _ _ _ hR
      have t1 := cell_of_row _ _ 1 _ _ _ hR
      have t2 := cell_of_row _ _ 2 _ _ _ hR
      have m0 := cell_of_row _ _ 0 _ _ _ HI.out.m
      have m1 := cell_of_row _ _ 1 _ _ _ HI.out.m
      have m2 := cell_of_row _ _ 2 _ _ _ HI.out.m
      simp only [List.getElem?_toArray, List.getElem?_cons_succ, List.getElem?_cons_zero] at t0 t1 t2 m0 m1 m2
      have f0 := frozen_of_row _ _ 0 _ _ hR
      have f1 := frozen_of_row _ _ 1 _ _ hR
      have f2 := frozen_of_row _ _ 2 _ _ hR
      have hbk := HI.out.keep
      have hs1 := hbk.size
      have ho := HI.out.own
      have hp := HP.out
      rw [show rowF (upto D (i * c)) p = rowF D p by rw [hp]; exact rowF_upto_all _ _] at ho
      obtain ⟨od, hod⟩ : ∃ od, tabO O c (i * c) = od := ⟨_, rfl⟩
      have HOD := Lib.hid hod
      rw [hod]
      clear hod hp
      go_wp2_with fail
      refine bodyPost_ret (results_row2 rfl _ _ _ _ _ _ _ rfl (heap_store3 _ _ _ _ _ (.int .i64 i) (.int .i64 c) (.slice ao1 p cap1) _ hR) Try.underlying24 rfl (by kernel_rfl)) rfl ?_
      rw [← HP.out]
      rw [← HP.out] at ho
      refine ⟨ao1, cap1, by rw [HOD.out]; rfl, ?_, ?_⟩
      · exact ownsRow_base (owns_set3 ho (by omega) _ _ _) (by omega)
      · exact below_set3 (below_tr2 hbk HBw.out) (by omega) _ _ _

set_option maxRecDepth 100000 in
set_option maxHeartbeats 1000000 in
theorem rmul3_no (w : World) (r m m' c : Int) (v v' : Value) (hne : m ≠ m') :
    Calls Try.prog 21 #[.agg #[.int .i64 r, .int .i64 m, v], .agg #[.int .i64 m', .int .i64 c, v']] w fun e w' =>
      e = .returned (.tuple #[.agg #[.int .i64 0, .int .i64 0, .slice none 0 0], .bool false, .int .i64 9]) ∧ Below w.heap.size w w' := by
  have hne' : (m != m') = true := by simpa using hne
  go_enter Try.func21, Try.ntmps21
  go_wp2_with fail
  refine bodyPost_ret (results_row2 rfl _ _ _ _ _ _ _ rfl (heap_at _ _ _ (by simp)) Try.underlying24 rfl (by kernel_rfl)) rfl ⟨rfl, below3 _ _ _ _⟩

end Go.Proofs.Ytijohedhbbddjaa
