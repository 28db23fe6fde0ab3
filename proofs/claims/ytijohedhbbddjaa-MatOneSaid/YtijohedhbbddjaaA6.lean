/- The walks of layer 3 (mat): Add, Sub where the sizes part; Even. -/
import Derived.Test.YtijohedhbbddjaaA5
namespace Go.Proofs.Ytijohedhbbddjaa
open Go.RowKit

set_option maxRecDepth 100000 in
set_option maxHeartbeats 1000000 in
theorem madd_no (w : World) (r c r' c' : Int) (ao bo : Option Addr) (n m cap cap' : Nat) (hne : ¬ (r = r' ∧ c = c')) :
    Calls Try.prog 16 #[.agg #[.int .i64 r, .int .i64 c, .slice ao n cap], .agg #[.int .i64 r', .int .i64 c', .slice bo m cap']] w fun e w' =>
      e = .returned (.tuple #[.agg #[.int .i64 0, .int .i64 0, .slice none 0 0], .bool false, .int .i64 9]) ∧ Below w.heap.size w w' := by
  have HN := Lib.hid hne
  clear hne
  go_enter Try.func16, Try.ntmps16
  go_wp2_with (first | (go_at_call 76; refine (each_no _ _ _ _ _ _ _ _ _ _ _ _ HN.out).mono ?_; rintro e w2 ⟨rfl, hb⟩; have hR := block_later (heap_at _ _ (w.heap.size + 1 + 1) (by simp)) hb; obtain ⟨hc, hf⟩ := bcell hb))
  exact bodyPost_ret (results_row2 rfl _ _ _ _ _ _ _ rfl (heap_store3 _ _ _ _ _ (.int .i64 0) (.int .i64 0) (.slice none 0 0) _ hR) Try.underlying24 rfl (by kernel_rfl)) rfl ⟨rfl, below_set3 (below_trans2 (below3 _ _ _ _) hb) (by omega) _ _ _⟩

set_option maxRecDepth 100000 in
set_option maxHeartbeats 1000000 in
theorem msub_no (w : World) (r c r' c' : Int) (ao bo : Option Addr) (n m cap cap' : Nat) (hne : ¬ (r = r' ∧ c = c')) :
    Calls Try.prog 18 #[.agg #[.int .i64 r, .int .i64 c, .slice ao n cap], .agg #[.int .i64 r', .int .i64 c', .slice bo m cap']] w fun e w' =>
      e = .returned (.tuple #[.agg #[.int .i64 0, .int .i64 0, .slice none 0 0], .bool false, .int .i64 9]) ∧ Below w.heap.size w w' := by
  have HN := Lib.hid hne
  clear hne
  go_enter Try.func18, Try.ntmps18
  go_wp2_with (first | (go_at_call 76; refine (each_no _ _ _ _ _ _ _ _ _ _ _ _ HN.out).mono ?_; rintro e w2 ⟨rfl, hb⟩; have hR := block_later (heap_at _ _ (w.heap.size + 1 + 1) (by simp)) hb; obtain ⟨hc, hf⟩ := bcell hb))
  exact bodyPost_ret (results_row2 rfl _ _ _ _ _ _ _ rfl (heap_store3 _ _ _ _ _ (.int .i64 0) (.int .i64 0) (.slice none 0 0) _ hR) Try.underlying24 rfl (by kernel_rfl)) rfl ⟨rfl, below_set3 (below_trans2 (below3 _ _ _ _) hb) (by omega) _ _ _⟩

def InQ (xs : List Int) : Prop := ∀ n, -70368744177664 ≤ xs.getD n 0 ∧ xs.getD n 0 ≤ 70368744177663

theorem enters_even : Enters 90 := enters_of Try.func90 (by kernel_rfl) (by kernel_rfl)

set_option maxHeartbeats 400000 in
theorem even1_any (x y : Int) (w : World) (hx : -70368744177664 ≤ x ∧ x ≤ 70368744177663) (hy : -70368744177664 ≤ y ∧ y ≤ 70368744177663) :
    Calls Try.prog 90 #[.int .i64 x, .int .i64 y] w fun e w' => e = .returned (.tuple #[.int .i64 (half1 (x + y)), .bool false]) ∧ w = w' := by
  go_enter Try.func90, Try.ntmps90
  go_wp2_with (go_at_call 80; refine (half1_any _ _ (by omega) (by omega)).mono ?_; rintro e w' ⟨rfl, rfl⟩)
  go_ret2
  exact ⟨rfl, rfl⟩

theorem does_even {xs ys : List Int} (hx : InQ xs) (hy : InQ ys) : Does 90 xs ys (fun x y => half1 (x + y)) (fun _ _ => false) := fun n w _ => (even1_any _ _ w (hx n) (hy n)).mono fun _ _ ⟨he, hw⟩ => ⟨he, hw ▸ Below.refl _ _⟩

def transL (xs : List Int) (r c : Nat) : List Int := tab (fun i k => xs.getD (k * c + i) 0) r (c * r)

theorem transL_inQ {xs : List Int} (h : InQ xs) (r c : Nat) : InQ (transL xs r c) := by
  intro n
  unfold transL tab
  rw [List.getD_eq_getElem?_getD, List.getElem?_map]
  by_cases hn : n < c * r
  · rw [List.getElem?_range hn]; exact h _
  · rw [List.getElem?_eq_none (by simp; omega)]; simp

theorem mv_owns {w : World} {base r c : Nat} {v : Value} {xs : List Int} (h : w.ownsRow base 25 1 v (r * c) (xs.map (Value.int .i64))) (hr : r ≤ 8) (hc : c ≤ 8) : MV w r c v xs :=
  ⟨QS.of_owns h, by have := h.1; simpa using this, hr, hc⟩

set_option maxRecDepth 100000 in
set_option maxHeartbeats 1000000 in
theorem even_any (w : World) (n : Nat) (v : Value) (xs : List Int) (h : MV w n n v xs) (hq : InQ xs) :
    Calls Try.prog 34 #[.agg #[.int .i64 n, .int .i64 n, v]] w fun e w' =>
      ∃ ao cap, e = .returned (.tuple #[.agg #[.int .i64 n, .int .i64 n, .slice ao (n * n) cap], .bool (eachO (fun _ _ => false) xs (transL xs n n) n n), .int .i64 0]) ∧
        w'.ownsRow w.heap.size 25 1 (.slice ao (n * n) cap) (n * n) ((eachL (fun x y => half1 (x + y)) xs (transL xs n n) n n).map (Value.int .i64)) ∧ Below w.heap.size w w' := by
  obtain ⟨ao, cap, hv, -⟩ := id h.qs
  subst hv
  have H := Lib.hid h
  have HQ := Lib.hid hq
  clear h hq
  go_enter Try.func34, Try.ntmps34
  go_wp2_with fail
  obtain ⟨W1, hW1⟩ : ∃ W1, W1 = w.alloc (.cells #[.int .i64 n, .int .i64 n, .slice ao xs.length cap] 24) := ⟨_, rfl⟩
  rw [← hW1]
  have hs1 : w.heap.size = W1.heap.size - 1 := by rw [hW1]; simp
  have r0 := cells_later (w := W1) (a := ⟨w.heap.size, 0, none⟩) (v := .int .i64 n) (by rw [hW1]; simp [go_sem])
  have r1 := cells_later (w := W1) (a := ⟨w.heap.size, 1, none⟩) (v := .int .i64 n) (by rw [hW1]; simp [go_sem])
  have r2 := cells_later (w := W1) (a := ⟨w.heap.size, 2, none⟩) (v := .slice ao xs.length cap) (by rw [hW1]; simp [go_sem])
  have hM : MV W1 n n (.slice ao xs.length cap) xs := by rw [hW1]; exact H.out.later (below1 _ _)
  have HM := Lib.hid hM
  have HB1 : Hid (Below w.heap.size w W1) := by rw [hW1]; exact below1 _ _
  have HS : Hid (W1.heap.size = w.heap.size + 1) := by rw [hW1]; exact World.size_alloc ..
  clear hM hW1 hs1
  obtain ⟨W2, hW2⟩ : ∃ W2, W2 = W1.alloc (.cells #[.int .i64 0, .int .i64 0, .slice none 0 0] 24) := ⟨_, rfl⟩
  rw [← hW2]
  have HR : Hid (W2.heap[w.heap.size + 1]? = some (.cells #[.int .i64 0, .int .i64 0, .slice none 0 0] 24 (0, 0))) := by rw [hW2]; exact heap_at _ _ _ HS.out.symm
  have HB2 : Hid (Below W1.heap.size W1 W2) := by rw [hW2]; exact below1 _ _
  clear hW2
  go_region_held3 (fun w' => Below W1.heap.size W1 w')
    (first | exact (Below.drew HB2.out) | exact below_tr (by assumption) (by assumption) | exact below_tr2 (by assumption) (by assumption) | exact below_set3 (by assumption) (Nat.le_of_eq HS.out) _ _ _)
    (first | (go_at_call 36; (refine (trans_any _ n n _ xs (HM.out.later (by assumption))).mono ?_); rintro e w1 ⟨ao1, cap1, rfl, hown1, hb1⟩; have hB1 : Below W2.heap.size W2 w1 := below_tr2 hb1 (below_drew _)) | (go_at_call 76; refine (each_any 90 enters_even _ n n _ _ xs (transL xs n n) _ _ (HM.out.later (by assumption)) (mv_owns hown1 HM.out.hr HM.out.hr) (does_even HQ.out (transL_inQ HQ.out _ _))).mono ?_; rintro e w2 ⟨ao2, cap2, rfl, hown2, hb2⟩; have hB2 := below_trans2 hB1 hb2; have hR2 := block_later HR.out hB2; have t0 := cell_of_row _ _ 0 _ _ _ hR2; have t1 := cell_of_row _ _ 1 _ _ _ hR2; have t2 := cell_of_row _ _ 2 _ _ _ hR2; have f0 := frozen_of_row _ _ 0 _ _ hR2; have f1 := frozen_of_row _ _ 1 _ _ hR2; have f2 := frozen_of_row _ _ 2 _ _ hR2))
  go_wp2
  have h3 := heap_store3 _ _ _ _ _ (.int .i64 n) (.int .i64 n) (.slice ao2 (n * n) cap2) _ hR2
  have hs2 : w.heap.size + 1 + 1 ≤ W2.heap.size := by have := lt_of_block HR.out; omega
  have hs3 : W2.heap.size ≤ w1.heap.size := hB1.size
  refine bodyPost_ret (results_row2 rfl _ _ _ _ _ _ _ rfl h3 Try.underlying24 rfl (by kernel_rfl)) rfl ⟨ao2, cap2, rfl, ?_, ?_⟩
  · exact ownsRow_base (owns_set3 hown2 (by omega) _ _ _) (by omega)
  · exact below_set3 (below_trans2 HB1.out (below_trans2 HB2.out hB2)) (by omega) _ _ _

set_option maxRecDepth 100000 in
set_option maxHeartbeats 1000000 in
theorem even_no (w : World) (r c : Nat) (v : Value) (xs : List Int) (h : MV w r c v xs) (hne : r ≠ c) :
    Calls Try.prog 34 #[.agg #[.int .i64 r, .int .i64 c, v]] w fun e w' =>
      e = .returned (.tuple #[.agg #[.int .i64 0, .int .i64 0, .slice none 0 0], .bool false, .int .i64 9]) ∧ Below w.heap.size w w' := by
  obtain ⟨ao, cap, hv, -⟩ := id h.qs
  subst hv
  have H := Lib.hid h
  have HN : Hid (¬ ((r : Int) = (c : Int) ∧ (c : Int) = (r : Int))) := by show ¬ _; omega
  clear h hne
  go_enter Try.func34, Try.ntmps34
  go_wp2_with fail
  obtain ⟨W1, hW1⟩ : ∃ W1, W1 = w.alloc (.cells #[.int .i64 r, .int .i64 c, .slice ao xs.length cap] 24) := ⟨_, rfl⟩
  rw [← hW1]
  have r0 := cells_later (w := W1) (a := ⟨w.heap.size, 0, none⟩) (v := .int .i64 r) (by rw [hW1]; simp [go_sem])
  have r1 := cells_later (w := W1) (a := ⟨w.heap.size, 1, none⟩) (v := .int .i64 c) (by rw [hW1]; simp [go_sem])
  have r2 := cells_later (w := W1) (a := ⟨w.heap.size, 2, none⟩) (v := .slice ao xs.length cap) (by rw [hW1]; simp [go_sem])
  have hM : MV W1 r c (.slice ao xs.length cap) xs := by rw [hW1]; exact H.out.later (below1 _ _)
  have HM := Lib.hid hM
  have HB1 : Hid (Below w.heap.size w W1) := by rw [hW1]; exact below1 _ _
  have HS : Hid (W1.heap.size = w.heap.size + 1) := by rw [hW1]; exact World.size_alloc ..
  clear hM hW1
  obtain ⟨W2, hW2⟩ : ∃ W2, W2 = W1.alloc (.cells #[.int .i64 0, .int .i64 0, .slice none 0 0] 24) := ⟨_, rfl⟩
  rw [← hW2]
  have HR : Hid (W2.heap[w.heap.size + 1]? = some (.cells #[.int .i64 0, .int .i64 0, .slice none 0 0] 24 (0, 0))) := by rw [hW2]; exact heap_at _ _ _ HS.out.symm
  have HB2 : Hid (Below W1.heap.size W1 W2) := by rw [hW2]; exact below1 _ _
  clear hW2
  go_region_held3 (fun w' => Below W1.heap.size W1 w')
    (first | exact (Below.drew HB2.out) | exact below_tr (by assumption) (by assumption) | exact below_tr2 (by assumption) (by assumption) | exact below_set3 (by assumption) (Nat.le_of_eq HS.out) _ _ _)
    (first | (go_at_call 36; (refine (trans_any _ r c _ xs (HM.out.later (by assumption))).mono ?_); rintro e w1 ⟨ao1, cap1, rfl, hown1, hb1⟩; have hB1 : Below W2.heap.size W2 w1 := below_tr2 hb1 (below_drew _)) | (go_at_call 76; refine (each_no 90 _ _ _ _ _ _ _ _ _ _ _ HN.out).mono ?_; rintro e w2 ⟨rfl, hb2⟩; have hB2 := below_trans2 hB1 hb2; have hR2 := block_later HR.out hB2; have t0 := cell_of_row _ _ 0 _ _ _ hR2; have t1 := cell_of_row _ _ 1 _ _ _ hR2; have t2 := cell_of_row _ _ 2 _ _ _ hR2; have f0 := frozen_of_row _ _ 0 _ _ hR2; have f1 := frozen_of_row _ _ 1 _ _ hR2; have f2 := frozen_of_row _ _ 2 _ _ hR2))
  go_wp2
  have h3 := heap_store3 _ _ _ _ _ (.int .i64 0) (.int .i64 0) (.slice none 0 0) _ hR2
  exact bodyPost_ret (results_row2 rfl _ _ _ _ _ _ _ rfl h3 Try.underlying24 rfl (by kernel_rfl)) rfl ⟨rfl, below_set3 (below_trans2 HB1.out (below_trans2 HB2.out hB2)) (by omega) _ _ _⟩

end Go.Proofs.Ytijohedhbbddjaa
