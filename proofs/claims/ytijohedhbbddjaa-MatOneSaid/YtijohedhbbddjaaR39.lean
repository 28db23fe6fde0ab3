/- The walk of the reference's Eye. -/
import Derived.Test.YtijohedhbbddjaaR38
namespace Go.Proofs.Ytijohedhbbddjaa
open Go.RowKit

def eyeN (n : Int) : Nat := if n ≤ 0 then 0 else if 9 ≤ n then 9 else n.toNat
def eyeR (n : Int) : MRes := diagR (List.replicate (eyeN n) 16777216)
theorem eyeN_lt {n : Int} {k : Nat} (h : k < eyeN n) : (k : Int) < n ∧ (k : Int) < 9 := by
  unfold eyeN at h
  repeat' split at h
  all_goals omega
theorem eyeN_le (n : Int) : eyeN n ≤ 9 := by
  unfold eyeN
  repeat' split
  all_goals omega
theorem eyeN_end (n : Int) : n ≤ eyeN n ∨ (eyeN n = 9 ∧ (9 : Int) ≤ n) := by
  unfold eyeN
  by_cases h1 : n ≤ 0
  · rw [if_pos h1]; left; omega
  · rw [if_neg h1]
    by_cases h2 : 9 ≤ n
    · rw [if_pos h2]; right; exact ⟨rfl, h2⟩
    · rw [if_neg h2]; left; omega

set_option maxRecDepth 100000 in
set_option maxHeartbeats 1000000 in
theorem reye3_any (w : World) (n : Int) : Calls Try.prog 29 #[.int .i64 n] w (Gives1 (eyeR n) w) := by
  have h9 := eyeN_le n
  have HE := Lib.hid (eyeN_end n)
  have HLt : Hid (∀ k : Nat, k < eyeN n → (k : Int) < n ∧ (k : Int) < 9) := fun k h => eyeN_lt h
  unfold eyeR
  obtain ⟨m, hm⟩ : ∃ m, eyeN n = m := ⟨_, rfl⟩
  rw [hm] at h9 HE HLt ⊢
  clear hm
  obtain ⟨i0, hi, hz0, hz1, hz2⟩ := info_parts Try.infoQ
  go_enter Try.func29, Try.ntmps29
  go_wp2_with fail
  go_loopg [4, 5] m (fun q sv kv wr => ∃ k : Nat, k ≤ m ∧ q = m - k ∧ kv = .int .i64 k ∧ ∃ ao cap, sv = .slice ao k cap ∧ NoneAt w wr (.slice ao k cap) (List.replicate k 16777216))
  case atStart => exact ⟨0, by omega, by omega, rfl, none, 0, rfl, none_start w⟩
  case round =>
    obtain ⟨k, hk, rfl, rfl, ao, cap, rfl, hN⟩ := hrel
    have HN := Lib.hid hN
    have hsz := hN.size
    have ho := hN.own
    rw [List.length_replicate] at ho
    clear hN
    by_cases hlt : k < m
    · obtain ⟨h1, h2⟩ := HLt.out k hlt
      go_wp2_with (at_builtin; refine wpList_append_own _ rfl (.tmp 15) (.tmp 16) 22 rfl (w.heap.size + 1) 25 i0 (.int .i64 0) 1 8 Try.underlying22 hi hz0 hz1 hz2 rfl (by decide) _ _ _ rfl (ho.alloc _) ⟨wr.heap.size, 0, none⟩ 1 1 [.int .i64 16777216] rfl rfl (news1 _ _ _) (one1 _ _) (by unfold maxLen; omega) (by omega) (by simp; omega) ?_; intro v' w2 hown2 hgrow2 _; obtain ⟨ao', cap', rfl⟩ := ownsRow_form hown2)
      go_roundg (m - (k + 1))
      case measure => omega
      case rel =>
        refine ⟨k + 1, by omega, rfl, by go_num, ao', cap', rfl, ?_⟩
        have := HN.out.step (by rw [List.length_replicate]; exact hown2) hgrow2
        rw [List.replicate_succ']
        exact this
    · have hkm : k = m := by omega
      subst hkm
      have hq : QS wr (.slice ao (List.replicate k (16777216 : Int)).length cap) (List.replicate k 16777216) := by rw [List.length_replicate]; exact QS.of_owns ho
      have HQ : Hid (QS wr (.slice ao k cap) (List.replicate k 16777216)) := QS.of_owns ho
      have HLn : Hid ((List.replicate k (16777216 : Int)).length ≤ 9223372036854775807) := by show _ ≤ _; rw [List.length_replicate]; omega
      obtain ⟨pr, hpr⟩ : ∃ p, diagR (List.replicate k 16777216) = p := ⟨_, rfl⟩
      have HPR := Lib.hid hpr
      clear hpr hq
      rcases HE.out with he | ⟨he, he9⟩
      · go_wp2_with (go_at_call 31; refine (rdiag3_any _ _ _ HQ.out HLn.out).mono ?_; rw [HPR.out]; rintro e w2 ⟨ao2, cap2, rfl, hown3, hb2⟩; have hR := block_later HN.out.t hb2; have t0 := cell_of_row _ _ 0 _ _ _ hR; have t1 := cell_of_row _ _ 1 _ _ _ hR; have t2 := cell_of_row _ _ 2 _ _ _ hR; have f0 := frozen_of_row _ _ 0 _ _ hR; have f1 := frozen_of_row _ _ 1 _ _ hR; have f2 := frozen_of_row _ _ 2 _ _ hR)
        rw [HPR.out]
        refine bodyPost_ret (results_row1 rfl _ _ _ _ _ _ _ rfl (heap_store3 _ _ _ _ _ (.int .i64 pr.r) (.int .i64 pr.c) (.slice ao2 pr.xs.length cap2) _ hR) Try.underlying24 rfl (by kernel_rfl)) rfl ⟨ao2, cap2, rfl, ?_, ?_⟩
        · exact ownsRow_base (owns_set3 hown3 (by omega) _ _ _) (by omega)
        · exact below_set3 (below_trans2 HN.out.below hb2) (by omega) _ _ _
      · have hk9 : (9 : Int) ≤ (k : Int) := by omega
        clear he
        go_wp2_with (go_at_call 31; refine (rdiag3_any _ _ _ HQ.out HLn.out).mono ?_; rw [HPR.out]; rintro e w2 ⟨ao2, cap2, rfl, hown3, hb2⟩; have hR := block_later HN.out.t hb2; have t0 := cell_of_row _ _ 0 _ _ _ hR; have t1 := cell_of_row _ _ 1 _ _ _ hR; have t2 := cell_of_row _ _ 2 _ _ _ hR; have f0 := frozen_of_row _ _ 0 _ _ hR; have f1 := frozen_of_row _ _ 1 _ _ hR; have f2 := frozen_of_row _ _ 2 _ _ hR)
        all_goals
          rw [HPR.out]
          refine bodyPost_ret (results_row1 rfl _ _ _ _ _ _ _ rfl (heap_store3 _ _ _ _ _ (.int .i64 pr.r) (.int .i64 pr.c) (.slice ao2 pr.xs.length cap2) _ hR) Try.underlying24 rfl (by kernel_rfl)) rfl ⟨ao2, cap2, rfl, ?_, ?_⟩
          · exact ownsRow_base (owns_set3 hown3 (by omega) _ _ _) (by omega)
          · exact below_set3 (below_trans2 HN.out.below hb2) (by omega) _ _ _

end Go.Proofs.Ytijohedhbbddjaa
