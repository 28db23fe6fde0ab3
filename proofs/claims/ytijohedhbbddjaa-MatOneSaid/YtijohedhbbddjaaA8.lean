/- The walks of slices.Equal (numbers) and mat.Same. -/
import Derived.Test.YtijohedhbbddjaaR34
import Derived.Deep.RegionWith
namespace Go.Proofs.Ytijohedhbbddjaa
open Go.RowKit

set_option maxRecDepth 100000 in
set_option maxHeartbeats 1000000 in
theorem equalQ_any (w : World) (v v' : Value) (xs ys : List Int) (h : QS w v xs) (h' : QS w v' ys) (hl : xs.length ≤ 9223372036854775807) (hl' : ys.length ≤ 9223372036854775807) :
    Calls Try.prog 79 #[v, v'] w fun e w' => e = .returned (.bool (decide (xs = ys))) ∧ Below w.heap.size w w' := by
  obtain ⟨ao, cap, hv, -⟩ := id h
  obtain ⟨bo, cap', hv', -⟩ := id h'
  subst hv
  subst hv'
  have HQ := Lib.hid h
  have HQ' := Lib.hid h'
  clear h h'
  by_cases hlen : (xs.length : Int) = ys.length
  · have HL : Hid (xs.length = ys.length) := by show _ = _; omega
    have h3 : ((xs.length : Int) != (ys.length : Int)) = false := by simpa using hlen
    clear hlen
    go_enter Try.func79, Try.ntmps79
    go_wp2_with fail
    go_loopg [13] xs.length (fun n kv wr => ∃ k : Nat, k ≤ xs.length ∧ n = xs.length - k ∧ kv = .int .i64 k ∧ xs.take k = ys.take k ∧ Below w.heap.size w wr)
    case atStart => exact ⟨0, by omega, by omega, rfl, by simp, Below.refl _ _⟩
    case round =>
      obtain ⟨k, hk, rfl, rfl, ha, hbr⟩ := hrel
      have HN := Lib.hid ha
      have HBR := Lib.hid hbr
      clear ha hbr
      by_cases hlt : k < xs.length
      · have hlt' : k < ys.length := by rw [← HL.out]; exact hlt
        obtain ⟨b, off, rfl, hc⟩ := qs_cell HQ.out hlt
        obtain ⟨b', off', rfl, hc'⟩ := qs_cell HQ'.out hlt'
        have hc := cell_later HBR.out hc
        have hc' := cell_later HBR.out hc'
        obtain ⟨x, hx⟩ : ∃ x, xs[k] = x := ⟨_, rfl⟩
        obtain ⟨y, hy⟩ : ∃ y, ys[k] = y := ⟨_, rfl⟩
        have HX := Lib.hid hx
        have HY := Lib.hid hy
        rw [hx] at hc
        rw [hy] at hc'
        clear hx hy
        have hk0 : (0 : Int) ≤ (k : Int) := by omega
        have hk1 : (k : Int) < (xs.length : Int) := by omega
        have hk2 : (k : Int) < (ys.length : Int) := by omega
        go_wp2_with fail
        go_quiet (fail)
        go_wp2_with fail
        · go_ret
          have h6 : ¬ x = y := by simpa using ‹(x != y) = true›
          refine ⟨retB ?_, below_drewN' HBR.out _⟩
          rw [decide_eq_false]
          rintro rfl
          exact h6 (HX.out.symm.trans HY.out)
        · have h6 : x = y := by simpa using ‹(x != y) = false›
          go_roundg (xs.length - (k + 1))
          case measure => omega
          case rel => exact ⟨k + 1, by omega, rfl, by go_num, by rw [List.take_succ_eq_append_getElem hlt, List.take_succ_eq_append_getElem hlt', HN.out, HX.out, HY.out, h6], below_drewN' HBR.out _⟩
      · have hkl : k = xs.length := by omega
        subst hkl
        go_wp2_with fail
        go_ret
        refine ⟨retB ?_, HBR.out⟩
        have := HN.out
        rw [List.take_length, HL.out, List.take_length] at this
        rw [decide_eq_true this]
  · have h3 : ((xs.length : Int) != (ys.length : Int)) = true := by simpa using hlen
    have HN := Lib.hid hlen
    clear hlen
    go_enter Try.func79, Try.ntmps79
    go_wp2_with fail
    go_ret
    refine ⟨retB ?_, Below.refl _ _⟩
    rw [decide_eq_false]
    rintro rfl
    exact HN.out rfl

set_option maxRecDepth 100000 in
set_option maxHeartbeats 1000000 in
theorem msame_any (w : World) (r c r' c' : Int) (v v' : Value) (xs ys : List Int) (h : QS w v xs) (h' : QS w v' ys) (hl : xs.length ≤ 9223372036854775807) (hl' : ys.length ≤ 9223372036854775807) :
    Calls Try.prog 22 #[.agg #[.int .i64 r, .int .i64 c, v], .agg #[.int .i64 r', .int .i64 c', v']] w fun e w' => e = .returned (.bool (sameB r c xs r' c' ys)) ∧ Below w.heap.size w w' := by
  obtain ⟨ao, cap, hv, -⟩ := id h
  obtain ⟨bo, cap', hv', -⟩ := id h'
  subst hv
  subst hv'
  have H := Lib.hid h
  have H' := Lib.hid h'
  clear h h'
  by_cases hall : r = r' ∧ c = c'
  · obtain ⟨rfl, rfl⟩ := hall
    go_enter Try.func22, Try.ntmps22
    go_wp2_with fail
    obtain ⟨W0, hW0⟩ : ∃ W0, W0 = (w.alloc (.cells #[.int .i64 r, .int .i64 c, .slice ao xs.length cap] 24)).alloc (.cells #[.int .i64 r, .int .i64 c, .slice bo ys.length cap'] 24) := ⟨_, rfl⟩
    rw [← hW0]
    have r0 := cells_later (w := W0) (a := ⟨w.heap.size, 0, none⟩) (v := .int .i64 r) (by rw [hW0]; simp [go_sem])
    have r1 := cells_later (w := W0) (a := ⟨w.heap.size, 1, none⟩) (v := .int .i64 c) (by rw [hW0]; simp [go_sem])
    have r2 := cells_later (w := W0) (a := ⟨w.heap.size, 2, none⟩) (v := .slice ao xs.length cap) (by rw [hW0]; simp [go_sem])
    have s0 := cells_later (w := W0) (a := ⟨w.heap.size + 1, 0, none⟩) (v := .int .i64 r) (by rw [hW0]; simp [go_sem])
    have s1 := cells_later (w := W0) (a := ⟨w.heap.size + 1, 1, none⟩) (v := .int .i64 c) (by rw [hW0]; simp [go_sem])
    have s2 := cells_later (w := W0) (a := ⟨w.heap.size + 1, 2, none⟩) (v := .slice bo ys.length cap') (by rw [hW0]; simp [go_sem])
    have HQ : Hid (QS W0 (.slice ao xs.length cap) xs) := by rw [hW0]; exact H.out.later (below2 _ _ _)
    have HQ' : Hid (QS W0 (.slice bo ys.length cap') ys) := by rw [hW0]; exact H'.out.later (below2 _ _ _)
    have HB : Hid (Below w.heap.size w W0) := by rw [hW0]; exact below2 _ _ _
    clear hW0
    first | (go_region_held3 (fun w' => Below W0.heap.size W0 w') (first | assumption | exact below_drew _ | exact below_tr (by assumption) (by assumption) | exact below_tr2 (by assumption) (by assumption)) (first | (go_at_call 70; refine (of_any _ _ _ _).mono ?_; rintro e w1 ⟨rfl, hb1⟩) | (go_at_call 79; refine (equalQ_any _ _ _ xs ys (HQ.out.later (by first | assumption | exact below_drew _ | exact below_tr (by assumption) (by assumption) | exact below_tr2 (by assumption) (by assumption))) (HQ'.out.later (by first | assumption | exact below_drew _ | exact below_tr (by assumption) (by assumption) | exact below_tr2 (by assumption) (by assumption))) hl hl').mono ?_; rintro e w1 ⟨rfl, hb1⟩))) | fail
    have hb1 : Below W0.heap.size W0 w1 := by assumption
    go_wp2_with fail
    go_ret
    exact ⟨retB (by unfold sameB; simp), below_trans2 HB.out hb1⟩
  · have HN := Lib.hid hall
    by_cases h1 : r = r'
    · subst h1
      have h3 : (c == c') = false := by simpa using fun e => hall ⟨rfl, e⟩
      clear hall
      go_enter Try.func22, Try.ntmps22
      go_wp2_with fail
      obtain ⟨W0, hW0⟩ : ∃ W0, W0 = (w.alloc (.cells #[.int .i64 r, .int .i64 c, .slice ao xs.length cap] 24)).alloc (.cells #[.int .i64 r, .int .i64 c', .slice bo ys.length cap'] 24) := ⟨_, rfl⟩
      rw [← hW0]
      have r0 := cells_later (w := W0) (a := ⟨w.heap.size, 0, none⟩) (v := .int .i64 r) (by rw [hW0]; simp [go_sem])
      have r1 := cells_later (w := W0) (a := ⟨w.heap.size, 1, none⟩) (v := .int .i64 c) (by rw [hW0]; simp [go_sem])
      have r2 := cells_later (w := W0) (a := ⟨w.heap.size, 2, none⟩) (v := .slice ao xs.length cap) (by rw [hW0]; simp [go_sem])
      have s0 := cells_later (w := W0) (a := ⟨w.heap.size + 1, 0, none⟩) (v := .int .i64 r) (by rw [hW0]; simp [go_sem])
      have s1 := cells_later (w := W0) (a := ⟨w.heap.size + 1, 1, none⟩) (v := .int .i64 c') (by rw [hW0]; simp [go_sem])
      have s2 := cells_later (w := W0) (a := ⟨w.heap.size + 1, 2, none⟩) (v := .slice bo ys.length cap') (by rw [hW0]; simp [go_sem])
      have HQ : Hid (QS W0 (.slice ao xs.length cap) xs) := by rw [hW0]; exact H.out.later (below2 _ _ _)
      have HQ' : Hid (QS W0 (.slice bo ys.length cap') ys) := by rw [hW0]; exact H'.out.later (below2 _ _ _)
      have HB : Hid (Below w.heap.size w W0) := by rw [hW0]; exact below2 _ _ _
      clear hW0
      have hb0 := Below.refl W0.heap.size W0
      first | (go_region_with (first | (go_at_call 70; refine (of_any _ _ _ _).mono ?_; rintro e w1 ⟨rfl, hb1⟩; have hb1 : Below W0.heap.size W0 w1 := by first | exact below_trans2 (below_drew _) hb1 | exact below_tr2 hb1 (by assumption)))) | fail
      all_goals
        go_wp2_with fail
        go_ret
        exact ⟨retB (by unfold sameB; rw [decide_eq_false]; rintro ⟨h1, h2, -⟩; exact HN.out (by simp [h1, h2])), below_trans2 HB.out (by assumption)⟩
    · have h3 : (r == r') = false := by simpa using h1
      clear hall h1
      go_enter Try.func22, Try.ntmps22
      go_wp2_with fail
      obtain ⟨W0, hW0⟩ : ∃ W0, W0 = (w.alloc (.cells #[.int .i64 r, .int .i64 c, .slice ao xs.length cap] 24)).alloc (.cells #[.int .i64 r', .int .i64 c', .slice bo ys.length cap'] 24) := ⟨_, rfl⟩
      rw [← hW0]
      have r0 := cells_later (w := W0) (a := ⟨w.heap.size, 0, none⟩) (v := .int .i64 r) (by rw [hW0]; simp [go_sem])
      have r1 := cells_later (w := W0) (a := ⟨w.heap.size, 1, none⟩) (v := .int .i64 c) (by rw [hW0]; simp [go_sem])
      have r2 := cells_later (w := W0) (a := ⟨w.heap.size, 2, none⟩) (v := .slice ao xs.length cap) (by rw [hW0]; simp [go_sem])
      have s0 := cells_later (w := W0) (a := ⟨w.heap.size + 1, 0, none⟩) (v := .int .i64 r') (by rw [hW0]; simp [go_sem])
      have s1 := cells_later (w := W0) (a := ⟨w.heap.size + 1, 1, none⟩) (v := .int .i64 c') (by rw [hW0]; simp [go_sem])
      have s2 := cells_later (w := W0) (a := ⟨w.heap.size + 1, 2, none⟩) (v := .slice bo ys.length cap') (by rw [hW0]; simp [go_sem])
      have HQ : Hid (QS W0 (.slice ao xs.length cap) xs) := by rw [hW0]; exact H.out.later (below2 _ _ _)
      have HQ' : Hid (QS W0 (.slice bo ys.length cap') ys) := by rw [hW0]; exact H'.out.later (below2 _ _ _)
      have HB : Hid (Below w.heap.size w W0) := by rw [hW0]; exact below2 _ _ _
      clear hW0
      have hb0 := Below.refl W0.heap.size W0
      first | (go_region_with (first | (go_at_call 70; refine (of_any _ _ _ _).mono ?_; rintro e w1 ⟨rfl, hb1⟩; have hb1 : Below W0.heap.size W0 w1 := by first | exact below_trans2 (below_drew _) hb1 | exact below_tr2 hb1 (by assumption)))) | fail
      all_goals
        go_wp2_with fail
        go_ret
        exact ⟨retB (by unfold sameB; rw [decide_eq_false]; rintro ⟨h1, h2, -⟩; exact HN.out (by simp [h1, h2])), below_trans2 HB.out (by assumption)⟩

end Go.Proofs.Ytijohedhbbddjaa
