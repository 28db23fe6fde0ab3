/- The walk of the law MatOne. -/
import Derived.Test.YtijohedhbbddjaaA13
import Derived.Test.YtijohedhbbddjaaLMatTwo
namespace Go.Proofs.Ytijohedhbbddjaa
open Go.RowKit

set_option maxRecDepth 100000 in
set_option maxHeartbeats 4000000 in
theorem matOne_any (w : World) (r c z n : Int) (v v' : Value) (xs ls : List Int) (h : QS w v xs) (h' : QS w v' ls) (hl : xs.length ≤ 9223372036854775807) (hl' : ls.length ≤ 9223372036854775807) :
    Calls Try.prog 6 #[.agg #[.int .i64 r, .int .i64 c, v, .int .i64 z, .int .i64 n, v']] w fun e w' => e = .returned (.bool true) ∧ Below w.heap.size w w' := by
  obtain ⟨ao, cap, hv, -⟩ := id h
  obtain ⟨bo, bcap, hv', -⟩ := id h'
  subst hv
  subst hv'
  have H := Lib.hid h
  have H' := Lib.hid h'
  clear h h' 
  by_cases h20 : 20 < (ls.length : Int)
  · skip
    go_enter Try.func6, Try.ntmps6
    go_upto_region 5 with fail
    obtain ⟨W1, hW1⟩ : ∃ W1, W1 = (w.alloc (.cells #[.int .i64 r, .int .i64 c, .slice ao xs.length cap, .int .i64 z, .int .i64 n, .slice bo ls.length bcap] 43)).alloc (.cells #[.int .i64 r, .int .i64 c, .slice ao xs.length cap] 24) := ⟨_, rfl⟩
    rw [← hW1]
    have r0 := cells_later (w := W1) (a := ⟨w.heap.size + 1, 0, none⟩) (v := .int .i64 r) (by rw [hW1]; simp [go_sem])
    have r1 := cells_later (w := W1) (a := ⟨w.heap.size + 1, 1, none⟩) (v := .int .i64 c) (by rw [hW1]; simp [go_sem])
    have r2 := cells_later (w := W1) (a := ⟨w.heap.size + 1, 2, none⟩) (v := .slice ao xs.length cap) (by rw [hW1]; simp [go_sem])
    have HB : Hid (Below w.heap.size w W1) := by rw [hW1]; exact below2 _ _ _
    have HQ : Hid (QS W1 (.slice ao xs.length cap) xs) := by rw [hW1]; exact H.out.later (below2 _ _ _)
    have HQ' : Hid (QS W1 (.slice bo ls.length bcap) ls) := by rw [hW1]; exact H'.out.later (below2 _ _ _)
    clear hW1
    go_wp2_with (first | (go_at_call 11; refine (shown3_any _).mono ?_; rintro e w1 ⟨rfl, hb1⟩))
    go_ret
    exact ⟨rfl, below_trans2 HB.out (by first | assumption | exact hb1)⟩
  · by_cases h100 : 100 < (xs.length : Int)
    · skip
      go_enter Try.func6, Try.ntmps6
      go_upto_region 5 with fail
      obtain ⟨W1, hW1⟩ : ∃ W1, W1 = (w.alloc (.cells #[.int .i64 r, .int .i64 c, .slice ao xs.length cap, .int .i64 z, .int .i64 n, .slice bo ls.length bcap] 43)).alloc (.cells #[.int .i64 r, .int .i64 c, .slice ao xs.length cap] 24) := ⟨_, rfl⟩
      rw [← hW1]
      have r0 := cells_later (w := W1) (a := ⟨w.heap.size + 1, 0, none⟩) (v := .int .i64 r) (by rw [hW1]; simp [go_sem])
      have r1 := cells_later (w := W1) (a := ⟨w.heap.size + 1, 1, none⟩) (v := .int .i64 c) (by rw [hW1]; simp [go_sem])
      have r2 := cells_later (w := W1) (a := ⟨w.heap.size + 1, 2, none⟩) (v := .slice ao xs.length cap) (by rw [hW1]; simp [go_sem])
      have HB : Hid (Below w.heap.size w W1) := by rw [hW1]; exact below2 _ _ _
      have HQ : Hid (QS W1 (.slice ao xs.length cap) xs) := by rw [hW1]; exact H.out.later (below2 _ _ _)
      have HQ' : Hid (QS W1 (.slice bo ls.length bcap) ls) := by rw [hW1]; exact H'.out.later (below2 _ _ _)
      clear hW1
      go_wp2_with (first | (go_at_call 11; refine (shown3_any _).mono ?_; rintro e w1 ⟨rfl, hb1⟩))
      go_ret
      exact ⟨rfl, below_trans2 HB.out (by first | assumption | exact hb1)⟩
    · have g20 : (ls.length : Int) ≤ 20 := by omega
      have g100 : (xs.length : Int) ≤ 100 := by omega
      clear h20 h100
      have zd := diagR_len ls
      have ze := eyeR_len n
      obtain ⟨pd, hpd⟩ : ∃ p, diagR ls = p := ⟨_, rfl⟩
      obtain ⟨pe, hpe⟩ : ∃ p, eyeR n = p := ⟨_, rfl⟩
      have HPpd := Lib.hid hpd
      have HPpe := Lib.hid hpe
      rw [hpd] at zd
      rw [hpe] at ze
      clear hpd hpe
      cases ht : rightB r c xs with
      | false =>
        have HT := Lib.hid ht
        clear ht
        go_enter Try.func6, Try.ntmps6
        go_upto_region 5 with fail
        obtain ⟨W1, hW1⟩ : ∃ W1, W1 = (w.alloc (.cells #[.int .i64 r, .int .i64 c, .slice ao xs.length cap, .int .i64 z, .int .i64 n, .slice bo ls.length bcap] 43)).alloc (.cells #[.int .i64 r, .int .i64 c, .slice ao xs.length cap] 24) := ⟨_, rfl⟩
        rw [← hW1]
        have r0 := cells_later (w := W1) (a := ⟨w.heap.size + 1, 0, none⟩) (v := .int .i64 r) (by rw [hW1]; simp [go_sem])
        have r1 := cells_later (w := W1) (a := ⟨w.heap.size + 1, 1, none⟩) (v := .int .i64 c) (by rw [hW1]; simp [go_sem])
        have r2 := cells_later (w := W1) (a := ⟨w.heap.size + 1, 2, none⟩) (v := .slice ao xs.length cap) (by rw [hW1]; simp [go_sem])
        have HB : Hid (Below w.heap.size w W1) := by rw [hW1]; exact below2 _ _ _
        have HQ : Hid (QS W1 (.slice ao xs.length cap) xs) := by rw [hW1]; exact H.out.later (below2 _ _ _)
        have HQ' : Hid (QS W1 (.slice bo ls.length bcap) ls) := by rw [hW1]; exact H'.out.later (below2 _ _ _)
        clear hW1
        go_upto_region 8 with (first | (go_at_call 11; refine (shown3_any _).mono ?_; rintro e w1 ⟨rfl, hb1⟩))
        have hB0 := hb1
        clear hb1
        go_upto_region 9 with (go_at_call 28; refine (eye_all _ n).mono ?_; rw [HPpe.out]; rintro e v1 ⟨ao1, cap1, rfl, hq1, hb1⟩)
        have hQ1 := hq1.later (below1 _ (.cells #[.int .i64 pe.r, .int .i64 pe.c, .slice ao1 pe.xs.length cap1] 24))
        have hS1 := below_al hb1 (.cells #[.int .i64 pe.r, .int .i64 pe.c, .slice ao1 pe.xs.length cap1] 24)
        have hT1 := below_trans2 hB0 hS1
        obtain ⟨V1, hV1⟩ : ∃ V, V = v1.alloc (.cells #[.int .i64 pe.r, .int .i64 pe.c, .slice ao1 pe.xs.length cap1] 24) := ⟨_, rfl⟩
        obtain ⟨g1, hg1⟩ : ∃ g, g = v1.heap.size := ⟨_, rfl⟩
        rw [← hV1] at hQ1 hS1 hT1 ⊢
        rw [← hg1]
        have p10 := cells_later (w := V1) (a := ⟨g1, 0, none⟩) (v := .int .i64 pe.r) (by rw [hV1, hg1]; simp [go_sem])
        have p11 := cells_later (w := V1) (a := ⟨g1, 1, none⟩) (v := .int .i64 pe.c) (by rw [hV1, hg1]; simp [go_sem])
        have p12 := cells_later (w := V1) (a := ⟨g1, 2, none⟩) (v := .slice ao1 pe.xs.length cap1) (by rw [hV1, hg1]; simp [go_sem])
        have HX1 := Lib.hid hQ1
        have HS1 := Lib.hid hS1
        clear hq1 hQ1 hb1 hS1 hV1 hg1
        go_upto_region 10 with (go_at_call 29; refine (reye_all _ n).mono ?_; rw [HPpe.out]; rintro e v2 ⟨ao2, cap2, rfl, hq2, hb2⟩)
        have hQ2 := hq2.later (below1 _ (.cells #[.int .i64 pe.r, .int .i64 pe.c, .slice ao2 pe.xs.length cap2] 24))
        have hS2 := below_al hb2 (.cells #[.int .i64 pe.r, .int .i64 pe.c, .slice ao2 pe.xs.length cap2] 24)
        have hT2 := below_trans2 hT1 hS2
        obtain ⟨V2, hV2⟩ : ∃ V, V = v2.alloc (.cells #[.int .i64 pe.r, .int .i64 pe.c, .slice ao2 pe.xs.length cap2] 24) := ⟨_, rfl⟩
        obtain ⟨g2, hg2⟩ : ∃ g, g = v2.heap.size := ⟨_, rfl⟩
        rw [← hV2] at hQ2 hS2 hT2 ⊢
        rw [← hg2]
        have p20 := cells_later (w := V2) (a := ⟨g2, 0, none⟩) (v := .int .i64 pe.r) (by rw [hV2, hg2]; simp [go_sem])
        have p21 := cells_later (w := V2) (a := ⟨g2, 1, none⟩) (v := .int .i64 pe.c) (by rw [hV2, hg2]; simp [go_sem])
        have p22 := cells_later (w := V2) (a := ⟨g2, 2, none⟩) (v := .slice ao2 pe.xs.length cap2) (by rw [hV2, hg2]; simp [go_sem])
        have HX2 := Lib.hid hQ2
        have HS2 := Lib.hid hS2
        clear hq2 hQ2 hb2 hS2 hV2 hg2
        go_upto_region 11 with (go_at_call 30; refine (diag_all _ _ ls (HQ'.out.later hT2) hl').mono ?_; rw [HPpd.out]; rintro e v3 ⟨ao3, cap3, rfl, hq3, hb3⟩)
        have hQ3 := hq3.later (below1 _ (.cells #[.int .i64 pd.r, .int .i64 pd.c, .slice ao3 pd.xs.length cap3] 24))
        have hS3 := below_al hb3 (.cells #[.int .i64 pd.r, .int .i64 pd.c, .slice ao3 pd.xs.length cap3] 24)
        have hT3 := below_trans2 hT2 hS3
        obtain ⟨V3, hV3⟩ : ∃ V, V = v3.alloc (.cells #[.int .i64 pd.r, .int .i64 pd.c, .slice ao3 pd.xs.length cap3] 24) := ⟨_, rfl⟩
        obtain ⟨g3, hg3⟩ : ∃ g, g = v3.heap.size := ⟨_, rfl⟩
        rw [← hV3] at hQ3 hS3 hT3 ⊢
        rw [← hg3]
        have p30 := cells_later (w := V3) (a := ⟨g3, 0, none⟩) (v := .int .i64 pd.r) (by rw [hV3, hg3]; simp [go_sem])
        have p31 := cells_later (w := V3) (a := ⟨g3, 1, none⟩) (v := .int .i64 pd.c) (by rw [hV3, hg3]; simp [go_sem])
        have p32 := cells_later (w := V3) (a := ⟨g3, 2, none⟩) (v := .slice ao3 pd.xs.length cap3) (by rw [hV3, hg3]; simp [go_sem])
        have HX3 := Lib.hid hQ3
        have HS3 := Lib.hid hS3
        clear hq3 hQ3 hb3 hS3 hV3 hg3
        go_upto_region 12 with (go_at_call 31; refine (rdiag_all _ _ ls (HQ'.out.later hT3) hl').mono ?_; rw [HPpd.out]; rintro e v4 ⟨ao4, cap4, rfl, hq4, hb4⟩)
        have hQ4 := hq4.later (below1 _ (.cells #[.int .i64 pd.r, .int .i64 pd.c, .slice ao4 pd.xs.length cap4] 24))
        have hS4 := below_al hb4 (.cells #[.int .i64 pd.r, .int .i64 pd.c, .slice ao4 pd.xs.length cap4] 24)
        have hT4 := below_trans2 hT3 hS4
        obtain ⟨V4, hV4⟩ : ∃ V, V = v4.alloc (.cells #[.int .i64 pd.r, .int .i64 pd.c, .slice ao4 pd.xs.length cap4] 24) := ⟨_, rfl⟩
        obtain ⟨g4, hg4⟩ : ∃ g, g = v4.heap.size := ⟨_, rfl⟩
        rw [← hV4] at hQ4 hS4 hT4 ⊢
        rw [← hg4]
        have p40 := cells_later (w := V4) (a := ⟨g4, 0, none⟩) (v := .int .i64 pd.r) (by rw [hV4, hg4]; simp [go_sem])
        have p41 := cells_later (w := V4) (a := ⟨g4, 1, none⟩) (v := .int .i64 pd.c) (by rw [hV4, hg4]; simp [go_sem])
        have p42 := cells_later (w := V4) (a := ⟨g4, 2, none⟩) (v := .slice ao4 pd.xs.length cap4) (by rw [hV4, hg4]; simp [go_sem])
        have HX4 := Lib.hid hQ4
        have HS4 := Lib.hid hS4
        clear hq4 hQ4 hb4 hS4 hV4 hg4
        have hU4 := Below.refl V4.heap.size V4
        have hU3 := below_trans2 HS4.out hU4
        have hU2 := below_trans2 HS3.out hU3
        have hU1 := below_trans2 HS2.out hU2
        have p10 := cells_later (p10 _ hU1)
        have p11 := cells_later (p11 _ hU1)
        have p12 := cells_later (p12 _ hU1)
        have HX1 := Lib.hid (HX1.out.later hU1)
        have p20 := cells_later (p20 _ hU2)
        have p21 := cells_later (p21 _ hU2)
        have p22 := cells_later (p22 _ hU2)
        have HX2 := Lib.hid (HX2.out.later hU2)
        have p30 := cells_later (p30 _ hU3)
        have p31 := cells_later (p31 _ hU3)
        have p32 := cells_later (p32 _ hU3)
        have HX3 := Lib.hid (HX3.out.later hU3)
        have p40 := cells_later (p40 _ hU4)
        have p41 := cells_later (p41 _ hU4)
        have p42 := cells_later (p42 _ hU4)
        have HX4 := Lib.hid (HX4.out.later hU4)
        have r0 := cells_later (r0 _ hT4)
        have r1 := cells_later (r1 _ hT4)
        have r2 := cells_later (r2 _ hT4)
        have HQ4 := Lib.hid (HQ.out.later hT4)
        have HB4 := Lib.hid (below_trans2 HB.out hT4)
        clear hB0 hT1 hT2 hT3 hT4
        clear hU1 hU2 hU3
        go_wp2_with (first | (go_at_call 12; refine (rright_any _ r c _ xs (HQ4.out.later (Below.refl _ _)) hl).mono ?_; rw [HT.out]; rintro e w2 ⟨rfl, hb2⟩) | (go_at_call 15; first | (with_reducible refine (rsame_any _ pe.r pe.c pe.r pe.c _ _ pe.xs pe.xs (HX1.out.later hb2) (HX2.out.later hb2) (by omega) (by omega)).mono ?_; rw [sameB_self]; rintro e w3 ⟨rfl, hb3⟩; have hB3 := below_trans2 hb2 hb3) | (with_reducible refine (rsame_any _ pd.r pd.c pd.r pd.c _ _ pd.xs pd.xs (HX3.out.later hB3) (HX4.out.later hB3) (by omega) (by omega)).mono ?_; rw [sameB_self]; rintro e w4 ⟨rfl, hb4⟩; have hB4 := below_trans2 hB3 hb4)) | (go_at_call 32; refine (right_any _ r c _ xs (HQ4.out.later hB4) hl).mono ?_; rw [HT.out]; rintro e w5 ⟨rfl, hb5⟩; have hB5 := below_trans2 hB4 hb5))
        go_ret
        exact ⟨rfl, below_trans2 HB4.out hB5⟩
      | true =>
        obtain ⟨R, C, rfl, rfl, hR, hC, hlen, hclo⟩ := rightB_parts ht
        have HT := Lib.hid ht
        have HLn := Lib.hid hlen
        have HIn := Lib.hid (inQ_of hclo)
        clear ht hclo hlen
        have zs := scaleR_len xs z hR hC
        have zv := evenR_len xs hR hC
        have zt := transR_len xs hR hC
        obtain ⟨ps, hps⟩ : ∃ p, scaleR R C xs z = p := ⟨_, rfl⟩
        obtain ⟨pv, hpv⟩ : ∃ p, evenR R C xs = p := ⟨_, rfl⟩
        obtain ⟨pt, hpt⟩ : ∃ p, transR R C xs = p := ⟨_, rfl⟩
        have HPps := Lib.hid hps
        have HPpv := Lib.hid hpv
        have HPpt := Lib.hid hpt
        rw [hps] at zs
        rw [hpv] at zv
        rw [hpt] at zt
        clear hps hpv hpt
        go_enter Try.func6, Try.ntmps6
        go_upto_region 5 with fail
        obtain ⟨W1, hW1⟩ : ∃ W1, W1 = (w.alloc (.cells #[.int .i64 R, .int .i64 C, .slice ao xs.length cap, .int .i64 z, .int .i64 n, .slice bo ls.length bcap] 43)).alloc (.cells #[.int .i64 R, .int .i64 C, .slice ao xs.length cap] 24) := ⟨_, rfl⟩
        rw [← hW1]
        have r0 := cells_later (w := W1) (a := ⟨w.heap.size + 1, 0, none⟩) (v := .int .i64 R) (by rw [hW1]; simp [go_sem])
        have r1 := cells_later (w := W1) (a := ⟨w.heap.size + 1, 1, none⟩) (v := .int .i64 C) (by rw [hW1]; simp [go_sem])
        have r2 := cells_later (w := W1) (a := ⟨w.heap.size + 1, 2, none⟩) (v := .slice ao xs.length cap) (by rw [hW1]; simp [go_sem])
        have HB : Hid (Below w.heap.size w W1) := by rw [hW1]; exact below2 _ _ _
        have HQ : Hid (QS W1 (.slice ao xs.length cap) xs) := by rw [hW1]; exact H.out.later (below2 _ _ _)
        have HQ' : Hid (QS W1 (.slice bo ls.length bcap) ls) := by rw [hW1]; exact H'.out.later (below2 _ _ _)
        clear hW1
        go_upto_region 8 with (first | (go_at_call 11; refine (shown3_any _).mono ?_; rintro e w1 ⟨rfl, hb1⟩))
        have hB0 := hb1
        clear hb1
        go_upto_region 9 with (go_at_call 28; refine (eye_all _ n).mono ?_; rw [HPpe.out]; rintro e v1 ⟨ao1, cap1, rfl, hq1, hb1⟩)
        have hQ1 := hq1.later (below1 _ (.cells #[.int .i64 pe.r, .int .i64 pe.c, .slice ao1 pe.xs.length cap1] 24))
        have hS1 := below_al hb1 (.cells #[.int .i64 pe.r, .int .i64 pe.c, .slice ao1 pe.xs.length cap1] 24)
        have hT1 := below_trans2 hB0 hS1
        obtain ⟨V1, hV1⟩ : ∃ V, V = v1.alloc (.cells #[.int .i64 pe.r, .int .i64 pe.c, .slice ao1 pe.xs.length cap1] 24) := ⟨_, rfl⟩
        obtain ⟨g1, hg1⟩ : ∃ g, g = v1.heap.size := ⟨_, rfl⟩
        rw [← hV1] at hQ1 hS1 hT1 ⊢
        rw [← hg1]
        have p10 := cells_later (w := V1) (a := ⟨g1, 0, none⟩) (v := .int .i64 pe.r) (by rw [hV1, hg1]; simp [go_sem])
        have p11 := cells_later (w := V1) (a := ⟨g1, 1, none⟩) (v := .int .i64 pe.c) (by rw [hV1, hg1]; simp [go_sem])
        have p12 := cells_later (w := V1) (a := ⟨g1, 2, none⟩) (v := .slice ao1 pe.xs.length cap1) (by rw [hV1, hg1]; simp [go_sem])
        have HX1 := Lib.hid hQ1
        have HS1 := Lib.hid hS1
        clear hq1 hQ1 hb1 hS1 hV1 hg1
        go_upto_region 10 with (go_at_call 29; refine (reye_all _ n).mono ?_; rw [HPpe.out]; rintro e v2 ⟨ao2, cap2, rfl, hq2, hb2⟩)
        have hQ2 := hq2.later (below1 _ (.cells #[.int .i64 pe.r, .int .i64 pe.c, .slice ao2 pe.xs.length cap2] 24))
        have hS2 := below_al hb2 (.cells #[.int .i64 pe.r, .int .i64 pe.c, .slice ao2 pe.xs.length cap2] 24)
        have hT2 := below_trans2 hT1 hS2
        obtain ⟨V2, hV2⟩ : ∃ V, V = v2.alloc (.cells #[.int .i64 pe.r, .int .i64 pe.c, .slice ao2 pe.xs.length cap2] 24) := ⟨_, rfl⟩
        obtain ⟨g2, hg2⟩ : ∃ g, g = v2.heap.size := ⟨_, rfl⟩
        rw [← hV2] at hQ2 hS2 hT2 ⊢
        rw [← hg2]
        have p20 := cells_later (w := V2) (a := ⟨g2, 0, none⟩) (v := .int .i64 pe.r) (by rw [hV2, hg2]; simp [go_sem])
        have p21 := cells_later (w := V2) (a := ⟨g2, 1, none⟩) (v := .int .i64 pe.c) (by rw [hV2, hg2]; simp [go_sem])
        have p22 := cells_later (w := V2) (a := ⟨g2, 2, none⟩) (v := .slice ao2 pe.xs.length cap2) (by rw [hV2, hg2]; simp [go_sem])
        have HX2 := Lib.hid hQ2
        have HS2 := Lib.hid hS2
        clear hq2 hQ2 hb2 hS2 hV2 hg2
        go_upto_region 11 with (go_at_call 30; refine (diag_all _ _ ls (HQ'.out.later hT2) hl').mono ?_; rw [HPpd.out]; rintro e v3 ⟨ao3, cap3, rfl, hq3, hb3⟩)
        have hQ3 := hq3.later (below1 _ (.cells #[.int .i64 pd.r, .int .i64 pd.c, .slice ao3 pd.xs.length cap3] 24))
        have hS3 := below_al hb3 (.cells #[.int .i64 pd.r, .int .i64 pd.c, .slice ao3 pd.xs.length cap3] 24)
        have hT3 := below_trans2 hT2 hS3
        obtain ⟨V3, hV3⟩ : ∃ V, V = v3.alloc (.cells #[.int .i64 pd.r, .int .i64 pd.c, .slice ao3 pd.xs.length cap3] 24) := ⟨_, rfl⟩
        obtain ⟨g3, hg3⟩ : ∃ g, g = v3.heap.size := ⟨_, rfl⟩
        rw [← hV3] at hQ3 hS3 hT3 ⊢
        rw [← hg3]
        have p30 := cells_later (w := V3) (a := ⟨g3, 0, none⟩) (v := .int .i64 pd.r) (by rw [hV3, hg3]; simp [go_sem])
        have p31 := cells_later (w := V3) (a := ⟨g3, 1, none⟩) (v := .int .i64 pd.c) (by rw [hV3, hg3]; simp [go_sem])
        have p32 := cells_later (w := V3) (a := ⟨g3, 2, none⟩) (v := .slice ao3 pd.xs.length cap3) (by rw [hV3, hg3]; simp [go_sem])
        have HX3 := Lib.hid hQ3
        have HS3 := Lib.hid hS3
        clear hq3 hQ3 hb3 hS3 hV3 hg3
        go_upto_region 12 with (go_at_call 31; refine (rdiag_all _ _ ls (HQ'.out.later hT3) hl').mono ?_; rw [HPpd.out]; rintro e v4 ⟨ao4, cap4, rfl, hq4, hb4⟩)
        have hQ4 := hq4.later (below1 _ (.cells #[.int .i64 pd.r, .int .i64 pd.c, .slice ao4 pd.xs.length cap4] 24))
        have hS4 := below_al hb4 (.cells #[.int .i64 pd.r, .int .i64 pd.c, .slice ao4 pd.xs.length cap4] 24)
        have hT4 := below_trans2 hT3 hS4
        obtain ⟨V4, hV4⟩ : ∃ V, V = v4.alloc (.cells #[.int .i64 pd.r, .int .i64 pd.c, .slice ao4 pd.xs.length cap4] 24) := ⟨_, rfl⟩
        obtain ⟨g4, hg4⟩ : ∃ g, g = v4.heap.size := ⟨_, rfl⟩
        rw [← hV4] at hQ4 hS4 hT4 ⊢
        rw [← hg4]
        have p40 := cells_later (w := V4) (a := ⟨g4, 0, none⟩) (v := .int .i64 pd.r) (by rw [hV4, hg4]; simp [go_sem])
        have p41 := cells_later (w := V4) (a := ⟨g4, 1, none⟩) (v := .int .i64 pd.c) (by rw [hV4, hg4]; simp [go_sem])
        have p42 := cells_later (w := V4) (a := ⟨g4, 2, none⟩) (v := .slice ao4 pd.xs.length cap4) (by rw [hV4, hg4]; simp [go_sem])
        have HX4 := Lib.hid hQ4
        have HS4 := Lib.hid hS4
        clear hq4 hQ4 hb4 hS4 hV4 hg4
        have hU4 := Below.refl V4.heap.size V4
        have hU3 := below_trans2 HS4.out hU4
        have hU2 := below_trans2 HS3.out hU3
        have hU1 := below_trans2 HS2.out hU2
        have p10 := cells_later (p10 _ hU1)
        have p11 := cells_later (p11 _ hU1)
        have p12 := cells_later (p12 _ hU1)
        have HX1 := Lib.hid (HX1.out.later hU1)
        have p20 := cells_later (p20 _ hU2)
        have p21 := cells_later (p21 _ hU2)
        have p22 := cells_later (p22 _ hU2)
        have HX2 := Lib.hid (HX2.out.later hU2)
        have p30 := cells_later (p30 _ hU3)
        have p31 := cells_later (p31 _ hU3)
        have p32 := cells_later (p32 _ hU3)
        have HX3 := Lib.hid (HX3.out.later hU3)
        have p40 := cells_later (p40 _ hU4)
        have p41 := cells_later (p41 _ hU4)
        have p42 := cells_later (p42 _ hU4)
        have HX4 := Lib.hid (HX4.out.later hU4)
        have r0 := cells_later (r0 _ hT4)
        have r1 := cells_later (r1 _ hT4)
        have r2 := cells_later (r2 _ hT4)
        have HQ4 := Lib.hid (HQ.out.later hT4)
        have HB4 := Lib.hid (below_trans2 HB.out hT4)
        clear hB0 hT1 hT2 hT3 hT4
        clear hU1 hU2 hU3
        have HM : Hid (MV V4 R C (.slice ao xs.length cap) xs) := ⟨HQ4.out, HLn.out, hR, hC⟩
        go_upto_region 17 with (first | (go_at_call 12; refine (rright_any _ R C _ xs (HQ4.out.later (Below.refl _ _)) hl).mono ?_; rw [HT.out]; rintro e w2 ⟨rfl, hb2⟩) | (go_at_call 15; first | (with_reducible refine (rsame_any _ pe.r pe.c pe.r pe.c _ _ pe.xs pe.xs (HX1.out.later hb2) (HX2.out.later hb2) (by omega) (by omega)).mono ?_; rw [sameB_self]; rintro e w3 ⟨rfl, hb3⟩; have hB3 := below_trans2 hb2 hb3) | (with_reducible refine (rsame_any _ pd.r pd.c pd.r pd.c _ _ pd.xs pd.xs (HX3.out.later hB3) (HX4.out.later hB3) (by omega) (by omega)).mono ?_; rw [sameB_self]; rintro e w4 ⟨rfl, hb4⟩; have hB4 := below_trans2 hB3 hb4)) | (go_at_call 32; refine (right_any _ R C _ xs (HQ4.out.later hB4) hl).mono ?_; rw [HT.out]; rintro e w5 ⟨rfl, hb5⟩; have hB5 := below_trans2 hB4 hb5))
        go_upto_region 18 with (go_at_call 13; refine (scale_all _ R C _ xs (HM.out.later hB5) z).mono ?_; rw [HPps.out]; rintro e v5 ⟨ao5, cap5, rfl, hq5, hb5⟩)
        have hQ5 := hq5.later (below1 _ (.cells #[.int .i64 ps.r, .int .i64 ps.c, .slice ao5 ps.xs.length cap5] 24))
        have hS5 := below_al hb5 (.cells #[.int .i64 ps.r, .int .i64 ps.c, .slice ao5 ps.xs.length cap5] 24)
        have hT5 := below_trans2 hB5 hS5
        obtain ⟨V5, hV5⟩ : ∃ V, V = v5.alloc (.cells #[.int .i64 ps.r, .int .i64 ps.c, .slice ao5 ps.xs.length cap5] 24) := ⟨_, rfl⟩
        obtain ⟨g5, hg5⟩ : ∃ g, g = v5.heap.size := ⟨_, rfl⟩
        rw [← hV5] at hQ5 hS5 hT5 ⊢
        rw [← hg5]
        have p50 := cells_later (w := V5) (a := ⟨g5, 0, none⟩) (v := .int .i64 ps.r) (by rw [hV5, hg5]; simp [go_sem])
        have p51 := cells_later (w := V5) (a := ⟨g5, 1, none⟩) (v := .int .i64 ps.c) (by rw [hV5, hg5]; simp [go_sem])
        have p52 := cells_later (w := V5) (a := ⟨g5, 2, none⟩) (v := .slice ao5 ps.xs.length cap5) (by rw [hV5, hg5]; simp [go_sem])
        have HX5 := Lib.hid hQ5
        have HS5 := Lib.hid hS5
        clear hq5 hQ5 hb5 hS5 hV5 hg5
        go_upto_region 19 with (go_at_call 33; refine (rscale_all _ R C _ xs (HM.out.later hT5) z).mono ?_; rw [HPps.out]; rintro e v6 ⟨ao6, cap6, rfl, hq6, hb6⟩)
        have hQ6 := hq6.later (below1 _ (.cells #[.int .i64 ps.r, .int .i64 ps.c, .slice ao6 ps.xs.length cap6] 24))
        have hS6 := below_al hb6 (.cells #[.int .i64 ps.r, .int .i64 ps.c, .slice ao6 ps.xs.length cap6] 24)
        have hT6 := below_trans2 hT5 hS6
        obtain ⟨V6, hV6⟩ : ∃ V, V = v6.alloc (.cells #[.int .i64 ps.r, .int .i64 ps.c, .slice ao6 ps.xs.length cap6] 24) := ⟨_, rfl⟩
        obtain ⟨g6, hg6⟩ : ∃ g, g = v6.heap.size := ⟨_, rfl⟩
        rw [← hV6] at hQ6 hS6 hT6 ⊢
        rw [← hg6]
        have p60 := cells_later (w := V6) (a := ⟨g6, 0, none⟩) (v := .int .i64 ps.r) (by rw [hV6, hg6]; simp [go_sem])
        have p61 := cells_later (w := V6) (a := ⟨g6, 1, none⟩) (v := .int .i64 ps.c) (by rw [hV6, hg6]; simp [go_sem])
        have p62 := cells_later (w := V6) (a := ⟨g6, 2, none⟩) (v := .slice ao6 ps.xs.length cap6) (by rw [hV6, hg6]; simp [go_sem])
        have HX6 := Lib.hid hQ6
        have HS6 := Lib.hid hS6
        clear hq6 hQ6 hb6 hS6 hV6 hg6
        go_upto_region 20 with (go_at_call 34; refine (even_all _ R C _ xs (HM.out.later hT6) HIn.out).mono ?_; rw [HPpv.out]; rintro e v7 ⟨ao7, cap7, rfl, hq7, hb7⟩)
        have hQ7 := hq7.later (below1 _ (.cells #[.int .i64 pv.r, .int .i64 pv.c, .slice ao7 pv.xs.length cap7] 24))
        have hS7 := below_al hb7 (.cells #[.int .i64 pv.r, .int .i64 pv.c, .slice ao7 pv.xs.length cap7] 24)
        have hT7 := below_trans2 hT6 hS7
        obtain ⟨V7, hV7⟩ : ∃ V, V = v7.alloc (.cells #[.int .i64 pv.r, .int .i64 pv.c, .slice ao7 pv.xs.length cap7] 24) := ⟨_, rfl⟩
        obtain ⟨g7, hg7⟩ : ∃ g, g = v7.heap.size := ⟨_, rfl⟩
        rw [← hV7] at hQ7 hS7 hT7 ⊢
        rw [← hg7]
        have p70 := cells_later (w := V7) (a := ⟨g7, 0, none⟩) (v := .int .i64 pv.r) (by rw [hV7, hg7]; simp [go_sem])
        have p71 := cells_later (w := V7) (a := ⟨g7, 1, none⟩) (v := .int .i64 pv.c) (by rw [hV7, hg7]; simp [go_sem])
        have p72 := cells_later (w := V7) (a := ⟨g7, 2, none⟩) (v := .slice ao7 pv.xs.length cap7) (by rw [hV7, hg7]; simp [go_sem])
        have HX7 := Lib.hid hQ7
        have HS7 := Lib.hid hS7
        clear hq7 hQ7 hb7 hS7 hV7 hg7
        go_upto_region 21 with (go_at_call 35; refine (reven_all _ R C _ xs (HM.out.later hT7) HIn.out).mono ?_; rw [HPpv.out]; rintro e v8 ⟨ao8, cap8, rfl, hq8, hb8⟩)
        have hQ8 := hq8.later (below1 _ (.cells #[.int .i64 pv.r, .int .i64 pv.c, .slice ao8 pv.xs.length cap8] 24))
        have hS8 := below_al hb8 (.cells #[.int .i64 pv.r, .int .i64 pv.c, .slice ao8 pv.xs.length cap8] 24)
        have hT8 := below_trans2 hT7 hS8
        obtain ⟨V8, hV8⟩ : ∃ V, V = v8.alloc (.cells #[.int .i64 pv.r, .int .i64 pv.c, .slice ao8 pv.xs.length cap8] 24) := ⟨_, rfl⟩
        obtain ⟨g8, hg8⟩ : ∃ g, g = v8.heap.size := ⟨_, rfl⟩
        rw [← hV8] at hQ8 hS8 hT8 ⊢
        rw [← hg8]
        have p80 := cells_later (w := V8) (a := ⟨g8, 0, none⟩) (v := .int .i64 pv.r) (by rw [hV8, hg8]; simp [go_sem])
        have p81 := cells_later (w := V8) (a := ⟨g8, 1, none⟩) (v := .int .i64 pv.c) (by rw [hV8, hg8]; simp [go_sem])
        have p82 := cells_later (w := V8) (a := ⟨g8, 2, none⟩) (v := .slice ao8 pv.xs.length cap8) (by rw [hV8, hg8]; simp [go_sem])
        have HX8 := Lib.hid hQ8
        have HS8 := Lib.hid hS8
        clear hq8 hQ8 hb8 hS8 hV8 hg8
        have hU8 := Below.refl V8.heap.size V8
        have hU7 := below_trans2 HS8.out hU8
        have hU6 := below_trans2 HS7.out hU7
        have hU5 := below_trans2 HS6.out hU6
        have p50 := cells_later (p50 _ hU5)
        have p51 := cells_later (p51 _ hU5)
        have p52 := cells_later (p52 _ hU5)
        have HX5 := Lib.hid (HX5.out.later hU5)
        have p60 := cells_later (p60 _ hU6)
        have p61 := cells_later (p61 _ hU6)
        have p62 := cells_later (p62 _ hU6)
        have HX6 := Lib.hid (HX6.out.later hU6)
        have p70 := cells_later (p70 _ hU7)
        have p71 := cells_later (p71 _ hU7)
        have p72 := cells_later (p72 _ hU7)
        have HX7 := Lib.hid (HX7.out.later hU7)
        have p80 := cells_later (p80 _ hU8)
        have p81 := cells_later (p81 _ hU8)
        have p82 := cells_later (p82 _ hU8)
        have HX8 := Lib.hid (HX8.out.later hU8)
        have r0 := cells_later (r0 _ hT8)
        have r1 := cells_later (r1 _ hT8)
        have r2 := cells_later (r2 _ hT8)
        have HM8 := Lib.hid (HM.out.later hT8)
        have HB8 := Lib.hid (below_trans2 HB4.out hT8)
        clear hb2 hb3 hb4 hb5 hB3 hB4 hB5 hT5 hT6 hT7 hT8
        clear hU5 hU6 hU7
        first | (go_region_held3 (fun w' => Below V8.heap.size V8 w') (first | assumption | exact below_drew _ | exact Below.drew (by assumption) | exact below_tr (by assumption) (by assumption) | exact below_tr2 (by assumption) (by assumption)) (first | (go_at_call 36; refine (trans_all _ R C _ xs (HM8.out.later (by first | assumption | exact below_drew _ | exact Below.drew (by assumption)))).mono ?_; rw [HPpt.out]; rintro e w' ⟨aoT, capT, rfl, hqT, hb⟩; have hk : Below V8.heap.size V8 w' := (by first | exact hb | exact below_tr2 hb (by assumption) | exact below_trans2 (below_drew _) hb | exact below_tr2 hb (Below.drew (by assumption)))) | (go_at_call 37; refine (rtrans_all _ R C _ xs (HM8.out.later (by first | assumption | exact below_drew _ | exact Below.drew (by assumption)))).mono ?_; rw [HPpt.out]; rintro e w' ⟨aoU, capU, rfl, hqU, hbU⟩; have hb := hbU; have hk : Below V8.heap.size V8 w' := (by first | exact hb | exact below_tr2 hb (by assumption) | exact below_trans2 (below_drew _) hb | exact below_tr2 hb (Below.drew (by assumption)))) | (go_at_call 15; first | (with_reducible refine (rsame_any _ ps.r ps.c ps.r ps.c _ _ ps.xs ps.xs (HX5.out.later (by first | assumption | exact below_drew _ | exact Below.drew (by assumption))) (HX6.out.later (by first | assumption | exact below_drew _ | exact Below.drew (by assumption))) (by omega) (by omega)).mono ?_; rw [sameB_self]; rintro e w' ⟨rfl, hb⟩; have hk : Below V8.heap.size V8 w' := (by first | exact hb | exact below_tr2 hb (by assumption) | exact below_trans2 (below_drew _) hb | exact below_tr2 hb (Below.drew (by assumption)))) | (with_reducible refine (rsame_any _ pv.r pv.c pv.r pv.c _ _ pv.xs pv.xs (HX7.out.later (by first | assumption | exact below_drew _ | exact Below.drew (by assumption))) (HX8.out.later (by first | assumption | exact below_drew _ | exact Below.drew (by assumption))) (by omega) (by omega)).mono ?_; rw [sameB_self]; rintro e w' ⟨rfl, hb⟩; have hk : Below V8.heap.size V8 w' := (by first | exact hb | exact below_tr2 hb (by assumption) | exact below_trans2 (below_drew _) hb | exact below_tr2 hb (Below.drew (by assumption)))) | (with_reducible refine (rsame_any _ pt.r pt.c pt.r pt.c _ _ pt.xs pt.xs (hqT.later hbU) hqU (by omega) (by omega)).mono ?_; rw [sameB_self]; rintro e w' ⟨rfl, hb⟩; have hk : Below V8.heap.size V8 w' := (by first | exact hb | exact below_tr2 hb (by assumption) | exact below_trans2 (below_drew _) hb | exact below_tr2 hb (Below.drew (by assumption))))))) | fail
        all_goals
          go_wp2_with fail
          go_ret
          exact ⟨rfl, below_trans2 HB8.out (by assumption)⟩

end Go.Proofs.Ytijohedhbbddjaa
