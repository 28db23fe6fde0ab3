/- The walks of layer 3 (mat): each, Add, Sub, Even. -/
import Derived.Test.YtijohedhbbddjaaA4
namespace Go.Proofs.Ytijohedhbbddjaa
open Go.RowKit

def eachL (g : Int → Int → Int) (xs ys : List Int) (r c : Nat) : List Int := tab (fun i k => g (xs.getD (i * c + k) 0) (ys.getD (i * c + k) 0)) c (r * c)
def eachO (o : Int → Int → Bool) (xs ys : List Int) (r c : Nat) : Bool := tabO (fun i k => o (xs.getD (i * c + k) 0) (ys.getD (i * c + k) 0)) c (r * c)

theorem inB_at2 {w : World} {r c : Nat} {v : Value} {xs : List Int} (h : MV w r c v xs) (t : TypeId) (o : Obj) {w' : World} (hb : Below ((w.alloc o).alloc (.cells #[.int .i64 r, .int .i64 c, v] t)).heap.size ((w.alloc o).alloc (.cells #[.int .i64 r, .int .i64 c, v] t)) w') : InB w' (w.heap.size + 1) r c v xs := inB_at1 h t o hb

set_option maxRecDepth 100000 in
set_option maxHeartbeats 1000000 in
theorem each_any (f : FuncId) (he : Enters f) (w : World) (r c : Nat) (v v' : Value) (xs ys : List Int) (g : Int → Int → Int) (o : Int → Int → Bool) (h : MV w r c v xs) (h' : MV w r c v' ys) (hd : Does f xs ys g o) :
    Calls Try.prog 76 #[.agg #[.int .i64 r, .int .i64 c, v], .agg #[.int .i64 r, .int .i64 c, v'], .func (.func f) #[] #[]] w fun e w' =>
      ∃ ao cap, e = .returned (.tuple #[.agg #[.int .i64 r, .int .i64 c, .slice ao (r * c) cap], .bool (eachO o xs ys r c), .int .i64 0]) ∧
        w'.ownsRow w.heap.size 25 1 (.slice ao (r * c) cap) (r * c) ((eachL g xs ys r c).map (Value.int .i64)) ∧ Below w.heap.size w w' := by
  obtain ⟨ao, cap, hv, -⟩ := id h.qs
  obtain ⟨bo, bcap, hv', -⟩ := id h'.qs
  subst hv
  subst hv'
  have H := Lib.hid h
  have H' := Lib.hid h'
  have HD := Lib.hid hd
  have HE := Lib.hid he
  clear h h' hd he
  go_enter Try.func76, Try.ntmps76
  go_wp2_with fail
  obtain ⟨W0, hW0⟩ : ∃ W0, W0 = (((w.alloc (.cells #[.int .i64 r, .int .i64 c, .slice ao xs.length cap] 24)).alloc (.cells #[.int .i64 r, .int .i64 c, .slice bo ys.length bcap] 24)).alloc (.cells #[.func (.func f) #[] #[]] 31)).alloc (.cells #[.int .i64 0, .int .i64 0, .slice none 0 0] 24) := ⟨_, rfl⟩
  rw [← hW0]
  have hA : InB W0 w.heap.size r c (.slice ao xs.length cap) xs := by rw [hW0]; exact inB_at H.out _ (below3 _ _ _ _)
  have hB : InB W0 (w.heap.size + 1) r c (.slice bo ys.length bcap) ys := by rw [hW0]; exact inB_at1 H'.out _ _ (below2 _ _ _)
  have hF : W0.cell? ⟨w.heap.size + 1 + 1, 0, none⟩ = some (.func (.func f) #[] #[]) := by rw [hW0]; simp [go_sem]
  have hR : W0.heap[w.heap.size + 1 + 1 + 1]? = some (.cells #[.int .i64 0, .int .i64 0, .slice none 0 0] 24 (0, 0)) := by rw [hW0]; exact heap_at _ _ _ (by simp)
  have hsz : W0.heap.size = w.heap.size + 1 + 1 + 1 + 1 := by rw [hW0]; simp
  have hBw : Below w.heap.size w W0 := by rw [hW0]; exact below4 _ _ _ _ _
  clear hW0
  have HA := Lib.hid hA
  have HB := Lib.hid hB
  have HF := Lib.hid hF
  have HR := Lib.hid hR
  have HBw := Lib.hid hBw
  have HSZ := Lib.hid hsz
  have r0 := cells_later hA.c0
  have r1 := cells_later hA.c1
  have r2 := cells_later hA.c2
  have s0 := cells_later hB.c0
  have s1 := cells_later hB.c1
  have s2 := cells_later hB.c2
  clear hA hB hF hR hBw hsz
  go_region_held3 (fun w' => Below W0.heap.size W0 w')
    (first | exact below_drew _ | exact below_tr (by assumption) (by assumption) | exact below_tr2 (by assumption) (by assumption))
    (first | (go_at_call 70; refine (of_any _ _ _ _).mono ?_; rintro e w1 ⟨rfl, hb1⟩))
  have hb1 : Below W0.heap.size W0 w1 := by assumption
  go_wp2_with (first | (go_at_call 70; refine (of_any _ _ _ _).mono ?_; rintro e w2 ⟨rfl, hb2⟩; have hb12 := below_trans2 hb1 hb2) | (go_at_call 69; refine (made_any 113 _ _ r c _ _ H.out.hr H.out.hc enters_each (each_tells f HE.out _ (w.heap.size + 1 + 1) w.heap.size (w.heap.size + 1) r c _ _ xs ys g o H.out.hr H.out.hc (cell_later hb12 HF.out) (HA.out.later hb12) (HB.out.later hb12) HD.out)).mono ?_; rintro e w3 ⟨ao', cap', rfl, hown, hb3⟩; have hb := below_trans2 hb12 hb3; have hR := block_later HR.out hb; have t0 := cell_of_row _ _ 0 _ _ _ hR; have t1 := cell_of_row _ _ 1 _ _ _ hR; have t2 := cell_of_row _ _ 2 _ _ _ hR; have f0 := frozen_of_row _ _ 0 _ _ hR; have f1 := frozen_of_row _ _ 1 _ _ hR; have f2 := frozen_of_row _ _ 2 _ _ hR; have hz : w.heap.size + 1 + 1 + 1 < w3.heap.size := lt_of_block hR))
  have h3 := heap_store3 _ _ _ _ _ (.int .i64 r) (.int .i64 c) (.slice ao' (r * c) cap') _ hR
  have hs1 : w.heap.size + 1 + 1 + 1 + 1 ≤ w1.heap.size := by have := hb1.size; rw [HSZ.out] at this; exact this
  have hs2 : w1.heap.size ≤ w2.heap.size := by have := hb2.size; exact this
  refine bodyPost_ret (results_row2 rfl _ _ _ _ _ _ _ rfl ((heap_old _ _ _ (by simpa using hz)).trans h3) Try.underlying24 rfl (by kernel_rfl)) rfl ⟨ao', cap', rfl, ?_, ?_⟩
  · exact ownsRow_base ((owns_set3 hown (by omega) _ _ _).alloc _) (by omega)
  · exact (below_set3 (below_trans2 HBw.out hb) (by omega) _ _ _).alloc (by simp; omega) _

set_option maxRecDepth 100000 in
set_option maxHeartbeats 1000000 in
theorem each_no (f : FuncId) (w : World) (r c r' c' : Int) (ao bo : Option Addr) (n m cap cap' : Nat) (hne : ¬ (r = r' ∧ c = c')) :
    Calls Try.prog 76 #[.agg #[.int .i64 r, .int .i64 c, .slice ao n cap], .agg #[.int .i64 r', .int .i64 c', .slice bo m cap'], .func (.func f) #[] #[]] w fun e w' =>
      e = .returned (.tuple #[.agg #[.int .i64 0, .int .i64 0, .slice none 0 0], .bool false, .int .i64 9]) ∧ Below w.heap.size w w' := by
  by_cases h1 : r = r'
  · subst h1
    have h3 : (c == c') = false := by simpa using fun e => hne ⟨rfl, e⟩
    clear hne
    go_enter Try.func76, Try.ntmps76
    go_wp2_with fail
    obtain ⟨W0, hW0⟩ : ∃ W0, W0 = (((w.alloc (.cells #[.int .i64 r, .int .i64 c, .slice ao n cap] 24)).alloc (.cells #[.int .i64 r, .int .i64 c', .slice bo m cap'] 24)).alloc (.cells #[.func (.func f) #[] #[]] 31)).alloc (.cells #[.int .i64 0, .int .i64 0, .slice none 0 0] 24) := ⟨_, rfl⟩
    rw [← hW0]
    have hA0 : W0.cell? ⟨w.heap.size, 0, none⟩ = some (.int .i64 r) := by rw [hW0]; simp [go_sem]
    have hA1 : W0.cell? ⟨w.heap.size, 1, none⟩ = some (.int .i64 c) := by rw [hW0]; simp [go_sem]
    have hA2 : W0.cell? ⟨w.heap.size, 2, none⟩ = some (.slice ao n cap) := by rw [hW0]; simp [go_sem]
    have hB0 : W0.cell? ⟨w.heap.size + 1, 0, none⟩ = some (.int .i64 r) := by rw [hW0]; simp [go_sem]
    have hB1 : W0.cell? ⟨w.heap.size + 1, 1, none⟩ = some (.int .i64 c') := by rw [hW0]; simp [go_sem]
    have hB2 : W0.cell? ⟨w.heap.size + 1, 2, none⟩ = some (.slice bo m cap') := by rw [hW0]; simp [go_sem]
    have hR : W0.heap[w.heap.size + 1 + 1 + 1]? = some (.cells #[.int .i64 0, .int .i64 0, .slice none 0 0] 24 (0, 0)) := by rw [hW0]; exact heap_at _ _ _ (by simp)
    have hBw : Below w.heap.size w W0 := by rw [hW0]; exact below4 _ _ _ _ _
    clear hW0
    have HR := Lib.hid hR
    have HBw := Lib.hid hBw
    have r0 := cells_later hA0
    have r1 := cells_later hA1
    have r2 := cells_later hA2
    have s0 := cells_later hB0
    have s1 := cells_later hB1
    have s2 := cells_later hB2
    clear hA0 hA1 hA2 hB0 hB1 hB2 hR hBw
    go_region_held3 (fun w' => Below W0.heap.size W0 w')
      (first | exact below_drew _ | exact below_tr (by assumption) (by assumption) | exact below_tr2 (by assumption) (by assumption))
      (first | (go_at_call 70; refine (of_any _ _ _ _).mono ?_; rintro e w1 ⟨rfl, hb1⟩))
    have hb1 : Below W0.heap.size W0 w1 := by assumption
    have hRr := block_later HR.out hb1
    have t0 := cell_of_row _ _ 0 _ _ _ hRr
    have t1 := cell_of_row _ _ 1 _ _ _ hRr
    have t2 := cell_of_row _ _ 2 _ _ _ hRr
    have f0 := frozen_of_row _ _ 0 _ _ hRr
    have f1 := frozen_of_row _ _ 1 _ _ hRr
    have f2 := frozen_of_row _ _ 2 _ _ hRr
    go_wp2_with fail
    refine bodyPost_ret (results_row2 rfl _ _ _ _ _ _ _ rfl (heap_store3 _ _ _ _ _ (.int .i64 0) (.int .i64 0) (.slice none 0 0) _ hRr) Try.underlying24 rfl (by kernel_rfl)) rfl ⟨rfl, below_set3 (below_trans2 HBw.out hb1) (by omega) _ _ _⟩
  · have h3 : (r == r') = false := by simpa using h1
    clear hne h1
    go_enter Try.func76, Try.ntmps76
    go_wp2_with fail
    obtain ⟨W0, hW0⟩ : ∃ W0, W0 = (((w.alloc (.cells #[.int .i64 r, .int .i64 c, .slice ao n cap] 24)).alloc (.cells #[.int .i64 r', .int .i64 c', .slice bo m cap'] 24)).alloc (.cells #[.func (.func f) #[] #[]] 31)).alloc (.cells #[.int .i64 0, .int .i64 0, .slice none 0 0] 24) := ⟨_, rfl⟩
    rw [← hW0]
    have hA0 : W0.cell? ⟨w.heap.size, 0, none⟩ = some (.int .i64 r) := by rw [hW0]; simp [go_sem]
    have hA1 : W0.cell? ⟨w.heap.size, 1, none⟩ = some (.int .i64 c) := by rw [hW0]; simp [go_sem]
    have hA2 : W0.cell? ⟨w.heap.size, 2, none⟩ = some (.slice ao n cap) := by rw [hW0]; simp [go_sem]
    have hB0 : W0.cell? ⟨w.heap.size + 1, 0, none⟩ = some (.int .i64 r') := by rw [hW0]; simp [go_sem]
    have hB1 : W0.cell? ⟨w.heap.size + 1, 1, none⟩ = some (.int .i64 c') := by rw [hW0]; simp [go_sem]
    have hB2 : W0.cell? ⟨w.heap.size + 1, 2, none⟩ = some (.slice bo m cap') := by rw [hW0]; simp [go_sem]
    have hR : W0.heap[w.heap.size + 1 + 1 + 1]? = some (.cells #[.int .i64 0, .int .i64 0, .slice none 0 0] 24 (0, 0)) := by rw [hW0]; exact heap_at _ _ _ (by simp)
    have hBw : Below w.heap.size w W0 := by rw [hW0]; exact below4 _ _ _ _ _
    clear hW0
    have HR := Lib.hid hR
    have HBw := Lib.hid hBw
    have r0 := cells_later hA0
    have r1 := cells_later hA1
    have r2 := cells_later hA2
    have s0 := cells_later hB0
    have s1 := cells_later hB1
    have s2 := cells_later hB2
    clear hA0 hA1 hA2 hB0 hB1 hB2 hR hBw
    go_region_held3 (fun w' => Below W0.heap.size W0 w')
      (first | exact below_drew _ | exact below_tr (by assumption) (by assumption) | exact below_tr2 (by assumption) (by assumption))
      (first | (go_at_call 70; refine (of_any _ _ _ _).mono ?_; rintro e w1 ⟨rfl, hb1⟩))
    have hb1 : Below W0.heap.size W0 w1 := by assumption
    have hRr := block_later HR.out hb1
    have t0 := cell_of_row _ _ 0 _ _ _ hRr
    have t1 := cell_of_row _ _ 1 _ _ _ hRr
    have t2 := cell_of_row _ _ 2 _ _ _ hRr
    have f0 := frozen_of_row _ _ 0 _ _ hRr
    have f1 := frozen_of_row _ _ 1 _ _ hRr
    have f2 := frozen_of_row _ _ 2 _ _ hRr
    go_wp2_with fail
    refine bodyPost_ret (results_row2 rfl _ _ _ _ _ _ _ rfl (heap_store3 _ _ _ _ _ (.int .i64 0) (.int .i64 0) (.slice none 0 0) _ hRr) Try.underlying24 rfl (by kernel_rfl)) rfl ⟨rfl, below_set3 (below_trans2 HBw.out hb1) (by omega) _ _ _⟩

theorem does_add (xs ys : List Int) : Does 24 xs ys addQ addO := fun n w _ => (add_any _ _ w).mono fun _ _ ⟨he, hw⟩ => ⟨he, hw ▸ Below.refl _ _⟩
theorem does_sub (xs ys : List Int) : Does 39 xs ys subQ subO := fun n w _ => (sub_any _ _ w).mono fun _ _ ⟨he, hw⟩ => ⟨he, hw ▸ Below.refl _ _⟩
theorem enters_add : Enters 24 := enters_of Try.func24 (by kernel_rfl) (by kernel_rfl)
theorem enters_sub : Enters 39 := enters_of Try.func39 (by kernel_rfl) (by kernel_rfl)

set_option maxRecDepth 100000 in
set_option maxHeartbeats 1000000 in
theorem madd_any (w : World) (r c : Nat) (v v' : Value) (xs ys : List Int) (h : MV w r c v xs) (h' : MV w r c v' ys) :
    Calls Try.prog 16 #[.agg #[.int .i64 r, .int .i64 c, v], .agg #[.int .i64 r, .int .i64 c, v']] w fun e w' =>
      ∃ ao cap, e = .returned (.tuple #[.agg #[.int .i64 r, .int .i64 c, .slice ao (r * c) cap], .bool (eachO addO xs ys r c), .int .i64 0]) ∧
        w'.ownsRow w.heap.size 25 1 (.slice ao (r * c) cap) (r * c) ((eachL addQ xs ys r c).map (Value.int .i64)) ∧ Below w.heap.size w w' := by
  obtain ⟨ao, cap, hv, -⟩ := id h.qs
  obtain ⟨bo, bcap, hv', -⟩ := id h'.qs
  subst hv
  subst hv'
  have H := Lib.hid h
  have H' := Lib.hid h'
  clear h h'
  go_enter Try.func16, Try.ntmps16
  go_wp2_with (first | (go_at_call 76; refine (each_any 24 enters_add _ r c _ _ xs ys addQ addO (H.out.later (below3 _ _ _ _)) (H'.out.later (below3 _ _ _ _)) (does_add _ _)).mono ?_; rintro e w2 ⟨ao', cap', rfl, hown, hb⟩; have hR := block_later (heap_at _ _ (w.heap.size + 1 + 1) (by simp)) hb; obtain ⟨hc, hf⟩ := bcell hb))
  have h3 := heap_store3 _ _ _ _ _ (.int .i64 r) (.int .i64 c) (.slice ao' (r * c) cap') _ hR
  refine bodyPost_ret (results_row2 rfl _ _ _ _ _ _ _ rfl h3 Try.underlying24 rfl (by kernel_rfl)) rfl ⟨ao', cap', rfl, ?_, ?_⟩
  · exact ownsRow_base (owns_set3 hown (by simp) _ _ _) (by simp; omega)
  · exact below_set3 (below_trans2 (below3 _ _ _ _) hb) (by omega) _ _ _

set_option maxRecDepth 100000 in
set_option maxHeartbeats 1000000 in
theorem msub_any (w : World) (r c : Nat) (v v' : Value) (xs ys : List Int) (h : MV w r c v xs) (h' : MV w r c v' ys) :
    Calls Try.prog 18 #[.agg #[.int .i64 r, .int .i64 c, v], .agg #[.int .i64 r, .int .i64 c, v']] w fun e w' =>
      ∃ ao cap, e = .returned (.tuple #[.agg #[.int .i64 r, .int .i64 c, .slice ao (r * c) cap], .bool (eachO subO xs ys r c), .int .i64 0]) ∧
        w'.ownsRow w.heap.size 25 1 (.slice ao (r * c) cap) (r * c) ((eachL subQ xs ys r c).map (Value.int .i64)) ∧ Below w.heap.size w w' := by
  obtain ⟨ao, cap, hv, -⟩ := id h.qs
  obtain ⟨bo, bcap, hv', -⟩ := id h'.qs
  subst hv
  subst hv'
  have H := Lib.hid h
  have H' := Lib.hid h'
  clear h h'
  go_enter Try.func18, Try.ntmps18
  go_wp2_with (first | (go_at_call 76; refine (each_any 39 enters_sub _ r c _ _ xs ys subQ subO (H.out.later (below3 _ _ _ _)) (H'.out.later (below3 _ _ _ _)) (does_sub _ _)).mono ?_; rintro e w2 ⟨ao', cap', rfl, hown, hb⟩; have hR := block_later (heap_at _ _ (w.heap.size + 1 + 1) (by simp)) hb; obtain ⟨hc, hf⟩ := bcell hb))
  have h3 := heap_store3 _ _ _ _ _ (.int .i64 r) (.int .i64 c) (.slice ao' (r * c) cap') _ hR
  refine bodyPost_ret (results_row2 rfl _ _ _ _ _ _ _ rfl h3 Try.underlying24 rfl (by kernel_rfl)) rfl ⟨ao', cap', rfl, ?_, ?_⟩
  · exact ownsRow_base (owns_set3 hown (by simp) _ _ _) (by simp; omega)
  · exact below_set3 (below_trans2 (below3 _ _ _ _) hb) (by omega) _ _ _

end Go.Proofs.Ytijohedhbbddjaa
