/- The walk of alidadelaw03.shown. -/
import Derived.Test.YtijohedhbbddjaaR3
namespace Go.Proofs.Ytijohedhbbddjaa
open Go.RowKit

def exL : List Int := [16777216, 33554432]
theorem exM : mulL exL (transL exL 1 2) 1 2 1 = [83886080] := by decide +kernel
theorem exO : mulLO exL (transL exL 1 2) 1 2 1 = false := by decide +kernel
theorem exR : rightB 1 1 [83886080] = true := by decide +kernel

set_option maxRecDepth 100000 in
set_option maxHeartbeats 1000000 in
theorem shown3_any (w : World) : Calls Try.prog 11 #[] w fun e w' => e = .returned (.bool true) ∧ Below w.heap.size w w' := by
  go_enter Try.func11, Try.ntmps11
  go_upto_region 2 with fail
  obtain ⟨W1, hW1⟩ : ∃ W1, W1 = (w.alloc (.cells #[.int .i64 16777216, .int .i64 33554432] 25)).alloc (.cells #[.int .i64 1, .int .i64 2, .slice (some ⟨w.heap.size, 0, none⟩) 2 2] 24) := ⟨_, rfl⟩
  rw [← hW1]
  have r0 := cells_later (w := W1) (a := ⟨w.heap.size + 1, 0, none⟩) (v := .int .i64 1) (by rw [hW1]; simp [go_sem])
  have r1 := cells_later (w := W1) (a := ⟨w.heap.size + 1, 1, none⟩) (v := .int .i64 2) (by rw [hW1]; simp [go_sem])
  have r2 := cells_later (w := W1) (a := ⟨w.heap.size + 1, 2, none⟩) (v := .slice (some ⟨w.heap.size, 0, none⟩) 2 2) (by rw [hW1]; simp [go_sem])
  have HB : Hid (Below w.heap.size w W1) := by rw [hW1]; exact below2 _ _ _
  have HM : Hid (MV W1 1 2 (.slice (some ⟨w.heap.size, 0, none⟩) 2 2) exL) := by
    refine ⟨⟨_, 2, rfl, by decide, fun i x hi => ⟨w.heap.size, 0, rfl, ?_⟩⟩, rfl, by omega, by omega⟩
    rw [hW1]
    match i, hi with
    | 0, hi => simp [exL] at hi; subst hi; simp [go_sem]
    | 1, hi => simp [exL] at hi; subst hi; simp [go_sem]
  clear hW1
  go_cut [2, 3, 4] (fun s2 s3 s4 wx => ∃ g ao cap, s2 = .pointer (some ⟨g, 0, none⟩) ∧ s3 = .bool false ∧ s4 = .int .i64 0 ∧ wx.heap[g]? = some (.cells #[.int .i64 1, .int .i64 1, .slice ao 1 cap] 24 (0, 0)) ∧ QS wx (.slice ao 1 cap) [83886080] ∧ Below w.heap.size w wx)
  case first =>
    go_region_held3 (fun w' => Below W1.heap.size W1 w')
      (first | assumption | exact below_drew _ | exact below_tr (by assumption) (by assumption) | exact below_tr2 (by assumption) (by assumption) | exact below_al (by assumption) _ | exact below_set3 (by assumption) (Nat.le_refl _) _ _ _ | exact below_set3 (by assumption) (Below.size (B := W1.heap.size) (by assumption)) _ _ _)
      (first | (go_at_call 36; (refine (trans_any _ 1 2 _ exL (HM.out.later (by assumption))).mono ?_); rintro e w1 ⟨ao1, cap1, rfl, hown1, hb1⟩; obtain ⟨hc1, hf1⟩ := bcell hb1; have hW1 : Below W1.heap.size W1 w1 := (by first | exact below_tr hb1 (by assumption) | exact below_tr2 hb1 (by assumption)); (try have hz1 : W1.heap.size < w1.heap.size := (by have := hb1.size; simp at this; omega))) | (go_at_call 20; refine (mmul_any _ 1 2 1 _ _ exL (transL exL 1 2) (HM.out.later (by assumption)) ((mv_owns hown1 (by omega) (by omega)).later (by first | exact Below.refl _ _ | exact below1 _ _))).mono ?_; rintro e w2 ⟨ao2, cap2, rfl, hown2, hb2⟩; obtain ⟨hc2, hf2⟩ := bcell hb2; have hW2 : Below W1.heap.size W1 w2 := (by first | exact below_tr2 hb2 (by assumption) | exact below_tr2 hb2 (below_al hW1 _)); (try have hz2 : w1.heap.size < w2.heap.size := (by have := hb2.size; simp at this; omega))))
    all_goals go_wp2_with fail
    all_goals go_meet
    · rw [show mulL exL (transL exL 1 2) 1 2 1 = _ from exM] at hown2
      exact ⟨_, ao2, cap2, rfl, by rw [exO], rfl, heap_at _ _ _ rfl, (QS.of_owns hown2).later (below1 _ _), below_trans2 HB.out (by assumption)⟩
    · rw [show mulL exL (transL exL 1 2) 1 2 1 = _ from exM] at hown2
      have hR := block_later (heap_at w1 (.cells #[.int .i64 0, .int .i64 0, .slice none 0 0] 24) _ rfl) hb2
      exact ⟨_, ao2, cap2, rfl, by rw [exO], rfl, heap_store3 _ _ _ _ _ _ _ _ _ hR, QS.of_owns (owns_set3 hown2 (by simp) _ _ _), below_trans2 HB.out (by assumption)⟩
    · rw [show mulL exL (transL exL 1 2) 1 2 1 = _ from exM] at hown2
      have hR := block_later (block_later (heap_at W1 (.cells #[.int .i64 0, .int .i64 0, .slice none 0 0] 24) _ rfl) (below_tr2 hb1 (below_drew _))) hb2
      exact ⟨_, ao2, cap2, rfl, by rw [exO], rfl, heap_store3 _ _ _ _ _ _ _ _ _ hR, QS.of_owns (owns_set3 hown2 (by omega) _ _ _), below_trans2 HB.out (by assumption)⟩
  case rest => 
    obtain ⟨g, ao, cap, rfl, rfl, rfl, hg, hqs, hb⟩ := hcut
    have c0 := cell_of_row _ _ 0 _ _ _ hg
    have c1 := cell_of_row _ _ 1 _ _ _ hg
    have c2 := cell_of_row _ _ 2 _ _ _ hg
    simp only [List.getElem?_toArray, List.getElem?_cons_succ, List.getElem?_cons_zero] at c0 c1 c2
    have HQ := Lib.hid hqs
    have HW := Lib.hid hb
    obtain ⟨b, off, hao, hc⟩ := qs_cell (xs := [83886080]) hqs (k := 0) (by decide)
    subst hao
    clear hqs hb hg
    simp only [List.getElem_cons_zero, Nat.add_zero] at hc
    go_wp2_with (first | (go_at_call 32; refine (right_any _ 1 1 _ [83886080] HQ.out (by decide)).mono ?_; rw [exR]; rintro e w3 ⟨rfl, hb3⟩))
    go_ret
    exact ⟨rfl, below_trans2 HW.out (by assumption)⟩

end Go.Proofs.Ytijohedhbbddjaa
