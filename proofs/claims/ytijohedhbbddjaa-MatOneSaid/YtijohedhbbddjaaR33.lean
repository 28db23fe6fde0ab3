/- The walks of the reference's Add, Sub (matrices). -/
import Derived.Test.YtijohedhbbddjaaR32
namespace Go.Proofs.Ytijohedhbbddjaa
open Go.RowKit

set_option maxRecDepth 100000 in
set_option maxHeartbeats 1000000 in
theorem radd3_any (w : World) (r c : Nat) (v v' : Value) (xs ys : List Int) (h : MV w r c v xs) (h' : MV w r c v' ys) :
    Calls Try.prog 17 #[.agg #[.int .i64 r, .int .i64 c, v], .agg #[.int .i64 r, .int .i64 c, v']] w fun e w' =>
      ∃ ao cap, e = .returned (.tuple #[.agg #[.int .i64 r, .int .i64 c, .slice ao (r * c) cap], .bool (eachO addO xs ys r c), .int .i64 0]) ∧
        w'.ownsRow w.heap.size 25 1 (.slice ao (r * c) cap) (r * c) ((eachL addQ xs ys r c).map (Value.int .i64)) ∧ Below w.heap.size w w' := by
  obtain ⟨ao, cap, hv, -⟩ := id h.qs
  obtain ⟨bo, bcap, hv', -⟩ := id h'.qs
  subst hv
  subst hv'
  have hl := h.len
  have hl' : ys.length = xs.length := by rw [h.len, h'.len]
  have hr := h.hr
  have hc := h.hc
  rw [hl']
  have h64 : xs.length ≤ 64 := by rw [hl]; exact mat_len hr hc
  have H := Lib.hid h.qs
  have H' := Lib.hid h'.qs
  rw [hl'] at H'
  rw [eachL_rowF, eachO_any, ← hl]
  have HL := Lib.hid hl
  have HL' := Lib.hid hl'
  clear h h' hl hl'
  go_enter Try.func17, Try.ntmps17
  go_wp2_with fail
  obtain ⟨W0, hW0⟩ : ∃ W0, W0 = ((w.alloc (.cells #[.int .i64 r, .int .i64 c, .slice ao xs.length cap] 24)).alloc (.cells #[.int .i64 r, .int .i64 c, .slice bo xs.length bcap] 24)).alloc (.cells #[.int .i64 0, .int .i64 0, .slice none 0 0] 24) := ⟨_, rfl⟩
  rw [← hW0]
  have r0 := cells_later (w := W0) (a := ⟨w.heap.size, 0, none⟩) (v := .int .i64 r) (by rw [hW0]; simp [go_sem])
  have r1 := cells_later (w := W0) (a := ⟨w.heap.size, 1, none⟩) (v := .int .i64 c) (by rw [hW0]; simp [go_sem])
  have r2 := cells_later (w := W0) (a := ⟨w.heap.size, 2, none⟩) (v := .slice ao xs.length cap) (by rw [hW0]; simp [go_sem])
  have s2 := cells_later (w := W0) (a := ⟨w.heap.size + 1, 2, none⟩) (v := .slice bo xs.length bcap) (by rw [hW0]; simp [go_sem])
  have HQ : Hid (QS W0 (.slice ao xs.length cap) xs) := by rw [hW0]; exact H.out.later (below3 _ _ _ _)
  have HQ' : Hid (QS W0 (.slice bo xs.length bcap) ys) := by rw [hW0]; exact H'.out.later (below3 _ _ _ _)
  have HR : Hid (W0.heap[w.heap.size + 1 + 1]? = some (.cells #[.int .i64 0, .int .i64 0, .slice none 0 0] 24 (0, 0))) := by rw [hW0]; exact heap_at _ _ _ (by simp)
  have HBw : Hid (Below w.heap.size w W0) := by rw [hW0]; exact below3 _ _ _ _
  have hsz : w.heap.size + 1 + 1 < W0.heap.size := by rw [hW0]; simp
  clear hW0
  have HB0 := Below.refl W0.heap.size W0
  have q0 := r0 _ HB0
  have q1 := r1 _ HB0
  go_wp2_with (go_at_call 77; refine (none_any W0 r c hr hc).mono ?_; rintro e w1 ⟨ao1, cap1, rfl, hown1, hb1⟩)
  have hI := RowIn.of (r := r) (c := c) hb1 hown1
  obtain ⟨g, hg⟩ : ∃ g, g = w1.heap.size := ⟨_, rfl⟩
  obtain ⟨wr1, hwr1⟩ : ∃ wr, wr = w1.alloc (.cells #[.int .i64 r, .int .i64 c, .slice ao1 (r * c) cap1] 24) := ⟨_, rfl⟩
  rw [← hg, ← hwr1] at hI
  rw [← hg, ← hwr1]
  clear hown1 hb1 hg hwr1 q0 q1
  rw [← HL.out] at hI ⊢
  rw [← rowF_upto_zero (fun j => addQ (xs.getD j 0) (ys.getD j 0))] at hI
  go_loopg [8, 9] xs.length (fun n od kv wr => ∃ k : Nat, k ≤ xs.length ∧ n = xs.length - k ∧ kv = .int .i64 k ∧ od = .bool ((List.range k).any fun j => addO (xs.getD j 0) (ys.getD j 0)) ∧ RowIn W0 wr g r c xs.length (.slice ao1 xs.length cap1) (rowF (upto (fun j => addQ (xs.getD j 0) (ys.getD j 0)) k) xs.length))
  case atStart => exact ⟨0, by omega, by omega, rfl, rfl, hI⟩
  case round =>
    clear hI
    obtain ⟨k, hk, rfl, rfl, rfl, hI⟩ := hrel
    have HI := Lib.hid hI
    have hkeep := hI.keep
    have r2 := r2 _ hkeep
    have s2 := s2 _ hkeep
    have m0 := cell_of_row _ _ 0 _ _ _ hI.m
    have m1 := cell_of_row _ _ 1 _ _ _ hI.m
    have m2 := cell_of_row _ _ 2 _ _ _ hI.m
    simp only [List.getElem?_toArray, List.getElem?_cons_succ, List.getElem?_cons_zero] at m0 m1 m2
    clear hI hkeep
    by_cases hlt : k < xs.length
    · have hlt' : k < ys.length := by rw [HL'.out]; exact hlt
      have hq := HQ.out
      have hq' := HQ'.out
      obtain ⟨b, off, rfl, hc1⟩ := qs_cell hq hlt
      rw [← HL'.out] at hq'
      obtain ⟨b', off', rfl, hc2⟩ := qs_cell hq' hlt'
      have hc1 := cell_later HI.out.keep hc1
      have hc2 := cell_later HI.out.keep hc2
      obtain ⟨q, cap2, he, hcq, hfq, hset⟩ := HI.out.at hlt
      have HE := Lib.hid he
      injection he with he1 he2 he3
      subst he1
      subst he3
      have HS := Lib.hid hset
      have hx : xs.getD k 0 = xs[k] := by simp [hlt]
      have hy : ys.getD k 0 = ys[k] := by simp [hlt']
      have HX := Lib.hid hx
      have HY := Lib.hid hy
      obtain ⟨x, hxe⟩ : ∃ x, xs[k] = x := ⟨_, rfl⟩
      obtain ⟨y, hye⟩ : ∃ y, ys[k] = y := ⟨_, rfl⟩
      rw [hxe] at hc1 HX
      rw [hye] at hc2 HY
      have hk0 : (0 : Int) ≤ (k : Int) := by omega
      have hk1 : (k : Int) < (xs.length : Int) := by omega
      obtain ⟨od, hod⟩ : ∃ od, (List.range k).any (fun j => addO (xs.getD j 0) (ys.getD j 0)) = od := ⟨_, rfl⟩
      have HOD := Lib.hid hod
      rw [hod]
      clear hset hxe hye he2 hq hq' hx hy hod
      go_wp2_with fail
      go_quiet (first | (go_at_call 38; refine Calls.quiet_of_same (swap_eq (radd_any _ _ _))))
      go_wp2_with fail
      all_goals
        go_roundg (xs.length - (k + 1))
        case measure => omega
        case rel =>
          refine ⟨k + 1, by omega, rfl, by go_num, ?_, ?_⟩
          · simp only [List.range_succ, List.any_append, HOD.out, List.any_cons, List.any_nil, HX.out, HY.out, Bool.or_false]
            first | (rw [‹od = true›]; rfl) | (rw [‹od = false›]; rfl)
          · have := HS.out _ (below_drewN' (Below.refl _ _) nq) (addQ x y)
            rw [show addQ x y = (fun j => addQ (xs.getD j 0) (ys.getD j 0)) k by show _ = addQ _ _; rw [HX.out, HY.out], rowF_upto_set] at this
            rw [show addQ x y = (fun j => addQ (xs.getD j 0) (ys.getD j 0)) k by show _ = addQ _ _; rw [HX.out, HY.out]]
            exact this
    · have hkl : k = xs.length := by omega
      subst hkl
      have hR := block_later HR.out HI.out.keep
      have t0 := cell_of_row _ _ 0 _ _ _ hR
      have t1 := cell_of_row _ _ 1 _ _ _ hR
      have t2 := cell_of_row _ _ 2 _ _ _ hR
      simp only [List.getElem?_toArray, List.getElem?_cons_succ, List.getElem?_cons_zero] at t0 t1 t2
      have f0 := frozen_of_row _ _ 0 _ _ hR
      have f1 := frozen_of_row _ _ 1 _ _ hR
      have f2 := frozen_of_row _ _ 2 _ _ hR
      have hbk := HI.out.keep
      have hs1 := hbk.size
      have ho := HI.out.own
      rw [rowF_upto_all] at ho
      obtain ⟨od, hod⟩ : ∃ od, (List.range xs.length).any (fun j => addO (xs.getD j 0) (ys.getD j 0)) = od := ⟨_, rfl⟩
      have HOD := Lib.hid hod
      rw [hod]
      clear hod
      go_wp2_with fail
      refine bodyPost_ret (results_row2 rfl _ _ _ _ _ _ _ rfl (heap_store3 _ _ _ _ _ (.int .i64 r) (.int .i64 c) (.slice ao1 xs.length cap1) _ hR) Try.underlying24 rfl (by kernel_rfl)) rfl ⟨ao1, cap1, by rw [HOD.out]; rfl, ?_, ?_⟩
      · exact ownsRow_base (owns_set3 ho (by omega) _ _ _) (by omega)
      · exact below_set3 (below_tr2 hbk HBw.out) (by omega) _ _ _

set_option maxRecDepth 100000 in
set_option maxHeartbeats 1000000 in
theorem rsub3_any (w : World) (r c : Nat) (v v' : Value) (xs ys : List Int) (h : MV w r c v xs) (h' : MV w r c v' ys) :
    Calls Try.prog 19 #[.agg #[.int .i64 r, .int .i64 c, v], .agg #[.int .i64 r, .int .i64 c, v']] w fun e w' =>
      ∃ ao cap, e = .returned (.tuple #[.agg #[.int .i64 r, .int .i64 c, .slice ao (r * c) cap], .bool (eachO subO xs ys r c), .int .i64 0]) ∧
        w'.ownsRow w.heap.size 25 1 (.slice ao (r * c) cap) (r * c) ((eachL subQ xs ys r c).map (Value.int .i64)) ∧ Below w.heap.size w w' := by
  obtain ⟨ao, cap, hv, -⟩ := id h.qs
  obtain ⟨bo, bcap, hv', -⟩ := id h'.qs
  subst hv
  subst hv'
  have hl := h.len
  have hl' : ys.length = xs.length := by rw [h.len, h'.len]
  have hr := h.hr
  have hc := h.hc
  rw [hl']
  have h64 : xs.length ≤ 64 := by rw [hl]; exact mat_len hr hc
  have H := Lib.hid h.qs
  have H' := Lib.hid h'.qs
  rw [hl'] at H'
  rw [eachL_rowF, eachO_any, ← hl]
  have HL := Lib.hid hl
  have HL' := Lib.hid hl'
  clear h h' hl hl'
  go_enter Try.func19, Try.ntmps19
  go_wp2_with fail
  obtain ⟨W0, hW0⟩ : ∃ W0, W0 = ((w.alloc (.cells #[.int .i64 r, .int .i64 c, .slice ao xs.length cap] 24)).alloc (.cells #[.int .i64 r, .int .i64 c, .slice bo xs.length bcap] 24)).alloc (.cells #[.int .i64 0, .int .i64 0, .slice none 0 0] 24) := ⟨_, rfl⟩
  rw [← hW0]
  have r0 := cells_later (w := W0) (a := ⟨w.heap.size, 0, none⟩) (v := .int .i64 r) (by rw [hW0]; simp [go_sem])
  have r1 := cells_later (w := W0) (a := ⟨w.heap.size, 1, none⟩) (v := .int .i64 c) (by rw [hW0]; simp [go_sem])
  have r2 := cells_later (w := W0) (a := ⟨w.heap.size, 2, none⟩) (v := .slice ao xs.length cap) (by rw [hW0]; simp [go_sem])
  have s2 := cells_later (w := W0) (a := ⟨w.heap.size + 1, 2, none⟩) (v := .slice bo xs.length bcap) (by rw [hW0]; simp [go_sem])
  have HQ : Hid (QS W0 (.slice ao xs.length cap) xs) := by rw [hW0]; exact H.out.later (below3 _ _ _ _)
  have HQ' : Hid (QS W0 (.slice bo xs.length bcap) ys) := by rw [hW0]; exact H'.out.later (below3 _ _ _ _)
  have HR : Hid (W0.heap[w.heap.size + 1 + 1]? = some (.cells #[.int .i64 0, .int .i64 0, .slice none 0 0] 24 (0, 0))) := by rw [hW0]; exact heap_at _ _ _ (by simp)
  have HBw : Hid (Below w.heap.size w W0) := by rw [hW0]; exact below3 _ _ _ _
  have hsz : w.heap.size + 1 + 1 < W0.heap.size := by rw [hW0]; simp
  clear hW0
  have HB0 := Below.refl W0.heap.size W0
  have q0 := r0 _ HB0
  have q1 := r1 _ HB0
  go_wp2_with (go_at_call 77; refine (none_any W0 r c hr hc).mono ?_; rintro e w1 ⟨ao1, cap1, rfl, hown1, hb1⟩)
  have hI := RowIn.of (r := r) (c := c) hb1 hown1
  obtain ⟨g, hg⟩ : ∃ g, g = w1.heap.size := ⟨_, rfl⟩
  obtain ⟨wr1, hwr1⟩ : ∃ wr, wr = w1.alloc (.cells #[.int .i64 r, .int .i64 c, .slice ao1 (r * c) cap1] 24) := ⟨_, rfl⟩
  rw [← hg, ← hwr1] at hI
  rw [← hg, ← hwr1]
  clear hown1 hb1 hg hwr1 q0 q1
  rw [← HL.out] at hI ⊢
  rw [← rowF_upto_zero (fun j => subQ (xs.getD j 0) (ys.getD j 0))] at hI
  go_loopg [8, 9] xs.length (fun n od kv wr => ∃ k : Nat, k ≤ xs.length ∧ n = xs.length - k ∧ kv = .int .i64 k ∧ od = .bool ((List.range k).any fun j => subO (xs.getD j 0) (ys.getD j 0)) ∧ RowIn W0 wr g r c xs.length (.slice ao1 xs.length cap1) (rowF (upto (fun j => subQ (xs.getD j 0) (ys.getD j 0)) k) xs.length))
  case atStart => exact ⟨0, by omega, by omega, rfl, rfl, hI⟩
  case round =>
    clear hI
    obtain ⟨k, hk, rfl, rfl, rfl, hI⟩ := hrel
    have HI := Lib.hid hI
    have hkeep := hI.keep
    have r2 := r2 _ hkeep
    have s2 := s2 _ hkeep
    have m0 := cell_of_row _ _ 0 _ _ _ hI.m
    have m1 := cell_of_row _ _ 1 _ _ _ hI.m
    have m2 := cell_of_row _ _ 2 _ _ _ hI.m
    simp only [List.getElem?_toArray, List.getElem?_cons_succ, List.getElem?_cons_zero] at m0 m1 m2
    clear hI hkeep
    by_cases hlt : k < xs.length
    · have hlt' : k < ys.length := by rw [HL'.out]; exact hlt
      have hq := HQ.out
      have hq' := HQ'.out
      obtain ⟨b, off, rfl, hc1⟩ := qs_cell hq hlt
      rw [← HL'.out] at hq'
      obtain ⟨b', off', rfl, hc2⟩ := qs_cell hq' hlt'
      have hc1 := cell_later HI.out.keep hc1
      have hc2 := cell_later HI.out.keep hc2
      obtain ⟨q, cap2, he, hcq, hfq, hset⟩ := HI.out.at hlt
      have HE := Lib.hid he
      injection he with he1 he2 he3
      subst he1
      subst he3
      have HS := Lib.hid hset
      have hx : xs.getD k 0 = xs[k] := by simp [hlt]
      have hy : ys.getD k 0 = ys[k] := by simp [hlt']
      have HX := Lib.hid hx
      have HY := Lib.hid hy
      obtain ⟨x, hxe⟩ : ∃ x, xs[k] = x := ⟨_, rfl⟩
      obtain ⟨y, hye⟩ : ∃ y, ys[k] = y := ⟨_, rfl⟩
      rw [hxe] at hc1 HX
      rw [hye] at hc2 HY
      have hk0 : (0 : Int) ≤ (k : Int) := by omega
      have hk1 : (k : Int) < (xs.length : Int) := by omega
      obtain ⟨od, hod⟩ : ∃ od, (List.range k).any (fun j => subO (xs.getD j 0) (ys.getD j 0)) = od := ⟨_, rfl⟩
      have HOD := Lib.hid hod
      rw [hod]
      clear hset hxe hye he2 hq hq' hx hy hod
      go_wp2_with fail
      go_quiet (first | (go_at_call 40; refine Calls.quiet_of_same (swap_eq (rsub_any _ _ _))))
      go_wp2_with fail
      all_goals
        go_roundg (xs.length - (k + 1))
        case measure => omega
        case rel =>
          refine ⟨k + 1, by omega, rfl, by go_num, ?_, ?_⟩
          · simp only [List.range_succ, List.any_append, HOD.out, List.any_cons, List.any_nil, HX.out, HY.out, Bool.or_false]
            first | (rw [‹od = true›]; rfl) | (rw [‹od = false›]; rfl)
          · have := HS.out _ (below_drewN' (Below.refl _ _) nq) (subQ x y)
            rw [show subQ x y = (fun j => subQ (xs.getD j 0) (ys.getD j 0)) k by show _ = subQ _ _; rw [HX.out, HY.out], rowF_upto_set] at this
            rw [show subQ x y = (fun j => subQ (xs.getD j 0) (ys.getD j 0)) k by show _ = subQ _ _; rw [HX.out, HY.out]]
            exact this
    · have hkl : k = xs.length := by omega
      subst hkl
      have hR := block_later HR.out HI.out.keep
      have t0 := cell_of_row _ _ 0 _ _ _ hR
      have t1 := cell_of_row _ _ 1 _ _ _ hR
      have t2 := cell_of_row _ _ 2 _ _ _ hR
      simp only [List.getElem?_toArray, List.getElem?_cons_succ, List.getElem?_cons_zero] at t0 t1 t2
      have f0 := frozen_of_row _ _ 0 _ _ hR
      have f1 := frozen_of_row _ _ 1 _ _ hR
      have f2 := frozen_of_row _ _ 2 _ _ hR
      have hbk := HI.out.keep
      have hs1 := hbk.size
      have ho := HI.out.own
      rw [rowF_upto_all] at ho
      obtain ⟨od, hod⟩ : ∃ od, (List.range xs.length).any (fun j => subO (xs.getD j 0) (ys.getD j 0)) = od := ⟨_, rfl⟩
      have HOD := Lib.hid hod
      rw [hod]
      clear hod
      go_wp2_with fail
      refine bodyPost_ret (results_row2 rfl _ _ _ _ _ _ _ rfl (heap_store3 _ _ _ _ _ (.int .i64 r) (.int .i64 c) (.slice ao1 xs.length cap1) _ hR) Try.underlying24 rfl (by kernel_rfl)) rfl ⟨ao1, cap1, by rw [HOD.out]; rfl, ?_, ?_⟩
      · exact ownsRow_base (owns_set3 ho (by omega) _ _ _) (by omega)
      · exact below_set3 (below_tr2 hbk HBw.out) (by omega) _ _ _

set_option maxRecDepth 100000 in
set_option maxHeartbeats 1000000 in
theorem radd3_no (w : World) (r c r' c' : Int) (ao bo : Option Addr) (n m cap cap' : Nat) (hne : ¬ (r = r' ∧ c = c')) :
    Calls Try.prog 17 #[.agg #[.int .i64 r, .int .i64 c, .slice ao n cap], .agg #[.int .i64 r', .int .i64 c', .slice bo m cap']] w fun e w' =>
      e = .returned (.tuple #[.agg #[.int .i64 0, .int .i64 0, .slice none 0 0], .bool false, .int .i64 9]) ∧ Below w.heap.size w w' := by
  by_cases h1 : r = r'
  · subst h1
    have h2 : (c != c') = true := by simpa using fun e => hne ⟨rfl, e⟩
    clear hne
    go_enter Try.func17, Try.ntmps17
    go_wp2_with fail
    exact bodyPost_ret (results_row2 rfl _ _ _ _ _ _ _ rfl (heap_at _ _ _ (by simp)) Try.underlying24 rfl (by kernel_rfl)) rfl ⟨rfl, below3 _ _ _ _⟩
  · have h2 : (r != r') = true := by simpa using h1
    clear hne
    go_enter Try.func17, Try.ntmps17
    go_wp2_with fail
    exact bodyPost_ret (results_row2 rfl _ _ _ _ _ _ _ rfl (heap_at _ _ _ (by simp)) Try.underlying24 rfl (by kernel_rfl)) rfl ⟨rfl, below3 _ _ _ _⟩

set_option maxRecDepth 100000 in
set_option maxHeartbeats 1000000 in
theorem rsub3_no (w : World) (r c r' c' : Int) (ao bo : Option Addr) (n m cap cap' : Nat) (hne : ¬ (r = r' ∧ c = c')) :
    Calls Try.prog 19 #[.agg #[.int .i64 r, .int .i64 c, .slice ao n cap], .agg #[.int .i64 r', .int .i64 c', .slice bo m cap']] w fun e w' =>
      e = .returned (.tuple #[.agg #[.int .i64 0, .int .i64 0, .slice none 0 0], .bool false, .int .i64 9]) ∧ Below w.heap.size w w' := by
  by_cases h1 : r = r'
  · subst h1
    have h2 : (c != c') = true := by simpa using fun e => hne ⟨rfl, e⟩
    clear hne
    go_enter Try.func19, Try.ntmps19
    go_wp2_with fail
    exact bodyPost_ret (results_row2 rfl _ _ _ _ _ _ _ rfl (heap_at _ _ _ (by simp)) Try.underlying24 rfl (by kernel_rfl)) rfl ⟨rfl, below3 _ _ _ _⟩
  · have h2 : (r != r') = true := by simpa using h1
    clear hne
    go_enter Try.func19, Try.ntmps19
    go_wp2_with fail
    exact bodyPost_ret (results_row2 rfl _ _ _ _ _ _ _ rfl (heap_at _ _ _ (by simp)) Try.underlying24 rfl (by kernel_rfl)) rfl ⟨rfl, below3 _ _ _ _⟩

end Go.Proofs.Ytijohedhbbddjaa
