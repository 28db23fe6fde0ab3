/- The walk of mat.Eye. -/
import Derived.Test.YtijohedhbbddjaaA11
namespace Go.Proofs.Ytijohedhbbddjaa
open Go.RowKit

theorem eyeR_no {n : Int} (h : n < 1 ∨ 8 < n) : eyeR n = ⟨0, 0, [], false, 1⟩ := by
  unfold eyeR diagR
  rw [if_neg]
  rw [List.length_replicate]
  rintro ⟨h1, h8, -⟩
  unfold eyeN at h1 h8
  repeat' split at h1
  all_goals first | omega | (split at h8 <;> first | omega | (split at h8 <;> omega))

set_option maxRecDepth 100000 in
set_option maxHeartbeats 1000000 in
theorem eye_any (w : World) (n : Int) : Calls Try.prog 28 #[.int .i64 n] w (Gives1 (eyeR n) w) := by
  by_cases hok : 1 ≤ n ∧ n ≤ 8
  · obtain ⟨k, rfl⟩ : ∃ k : Nat, n = k := ⟨n.toNat, by omega⟩
    obtain ⟨hk1, hk8⟩ := hok
    have h1 : 1 ≤ k := by omega
    have h8 : k ≤ 8 := by omega
    have he : eyeR (k : Int) = diagR (List.replicate k 16777216) := by
      unfold eyeR
      have : eyeN (k : Int) = k := by unfold eyeN; rw [if_neg (by omega), if_neg (by omega)]; omega
      rw [this]
    rw [he]
    clear he
    obtain ⟨pr, hpr⟩ : ∃ p, diagR (List.replicate k 16777216) = p := ⟨_, rfl⟩
    have HPR := Lib.hid hpr
    rw [hpr]
    clear hpr
    go_enter Try.func28, Try.ntmps28
    go_upto_region 3 with fail
    have hR0 : Hid ((w.alloc (.cells #[.int .i64 0, .int .i64 0, .slice none 0 0] 24)).heap[w.heap.size]? = some (.cells #[.int .i64 0, .int .i64 0, .slice none 0 0] 24 (0, 0))) := heap_at _ _ _ rfl
    obtain ⟨W0, hW0⟩ : ∃ W0, W0 = w.alloc (.cells #[.int .i64 0, .int .i64 0, .slice none 0 0] 24) := ⟨_, rfl⟩
    have hB0 : Hid (Below w.heap.size w W0) := by rw [hW0]; exact below1 _ _
    have hs0 : W0.heap.size = w.heap.size + 1 := by rw [hW0]; simp
    rw [← hW0] at hR0 ⊢
    clear hW0
    have HS0 := Lib.hid hs0
    clear hs0
    go_wp2_with (first | (go_at_call 86; go_loud (refine (repeat_any _ k W0.heap.size h1 h8 (heap_at _ _ _ rfl)).mono ?_; rintro e w1 ⟨g, rfl, hq1, hb1⟩)) | (go_at_call 30; refine (diag_any _ _ (List.replicate k 16777216) hq1 (by rw [List.length_replicate]; omega)).mono ?_; rw [HPR.out]; rintro e w2 ⟨ao2, cap2, rfl, hown2, hb2⟩; have hbb := below_trans2 (below_trans2 (below1 _ _) hb1) hb2; have hR := block_later hR0.out hbb; have t0 := cell_of_row _ _ 0 _ _ _ hR; have t1 := cell_of_row _ _ 1 _ _ _ hR; have t2 := cell_of_row _ _ 2 _ _ _ hR; have f0 := frozen_of_row _ _ 0 _ _ hR; have f1 := frozen_of_row _ _ 1 _ _ hR; have f2 := frozen_of_row _ _ 2 _ _ hR))
    have hz := hb1.size
    have hz0 := HS0.out
    refine bodyPost_ret (results_row1 rfl _ _ _ _ _ _ _ rfl (heap_store3 _ _ _ _ _ (.int .i64 pr.r) (.int .i64 pr.c) (.slice ao2 pr.xs.length cap2) _ hR) Try.underlying24 rfl (by kernel_rfl)) rfl ⟨ao2, cap2, rfl, ?_, ?_⟩
    · exact ownsRow_base (owns_set3 hown2 (by simp at hz; omega) _ _ _) (by simp at hz; omega)
    · exact below_set3 (below_trans2 hB0.out hbb) (by omega) _ _ _
  · rw [eyeR_no (by omega)]
    by_cases h1 : n < 1
    · clear hok
      go_enter Try.func28, Try.ntmps28
      go_wp2_with fail
      refine bodyPost_ret (results_row1 rfl _ _ _ _ _ _ _ rfl (heap_at _ _ _ (by simp)) Try.underlying24 rfl (by kernel_rfl)) rfl (gives1_no _ _ (below1 _ _))
    · have h8 : 8 < n := by omega
      clear hok
      go_enter Try.func28, Try.ntmps28
      go_wp2_with fail
      refine bodyPost_ret (results_row1 rfl _ _ _ _ _ _ _ rfl (heap_at _ _ _ (by simp)) Try.underlying24 rfl (by kernel_rfl)) rfl (gives1_no _ _ (below1 _ _))

end Go.Proofs.Ytijohedhbbddjaa
