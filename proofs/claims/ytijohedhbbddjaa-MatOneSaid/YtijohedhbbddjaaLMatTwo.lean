/- The walk of the law MatTwo. -/
import Derived.Test.YtijohedhbbddjaaA9
import Derived.Test.YtijohedhbbddjaaLMatScales
namespace Go.Proofs.Ytijohedhbbddjaa
open Go.RowKit

theorem Gives.later {p : MRes} {w w' w'' : World} {e : Ending} (h : Gives p w e w') (hb : Below w'.heap.size w' w'') : Gives p w e w'' := by
  obtain ⟨ao, cap, rfl, hq, hb1⟩ := h
  exact ⟨ao, cap, rfl, hq.later hb, below_trans2 hb1 hb⟩

theorem opR_len (g : Int → Int → Int) (o : Int → Int → Bool) {r c : Nat} (r' c' : Nat) (xs ys : List Int) (hr : r ≤ 8) (hc : c ≤ 8) : (opR g o r c r' c' xs ys).xs.length ≤ 64 := by
  unfold opR
  split
  · show (eachL g xs ys r c).length ≤ 64
    unfold eachL
    rw [tab_length]
    exact mat_len hr hc
  · simp
theorem mulR_len {r c : Nat} (m m' : Nat) (xs ys : List Int) (hr : r ≤ 8) (hc : c ≤ 8) : (mulR r m m' c xs ys).xs.length ≤ 64 := by
  unfold mulR
  split
  · show (mulL xs ys r m c).length ≤ 64
    unfold mulL
    rw [tab_length]
    exact mat_len hr hc
  · simp

set_option maxRecDepth 100000 in
set_option maxHeartbeats 2000000 in
theorem matTwo_any (w : World) (r c r' c' : Int) (v v' : Value) (xs ys : List Int) (h : QS w v xs) (h' : QS w v' ys) (hl : xs.length ≤ 9223372036854775807) (hl' : ys.length ≤ 9223372036854775807) :
    Calls Try.prog 4 #[.agg #[.int .i64 r, .int .i64 c, v], .agg #[.int .i64 r', .int .i64 c', v']] w fun e w' => e = .returned (.bool true) ∧ Below w.heap.size w w' := by
  obtain ⟨ao, cap, hv, -⟩ := id h
  obtain ⟨bo, bcap, hv', -⟩ := id h'
  subst hv
  subst hv'
  have H := Lib.hid h
  have H' := Lib.hid h'
  clear h h'

  cases ht : rightB r c xs with
  | false =>
    have HT := Lib.hid ht
    clear ht
    go_enter Try.func4, Try.ntmps4
    go_upto_region 1 with fail
    obtain ⟨W1, hW1⟩ : ∃ W1, W1 = (w.alloc (.cells #[.int .i64 r, .int .i64 c, .slice ao xs.length cap] 24)).alloc (.cells #[.int .i64 r', .int .i64 c', .slice bo ys.length bcap] 24) := ⟨_, rfl⟩
    rw [← hW1]
    have r0 := cells_later (w := W1) (a := ⟨w.heap.size, 0, none⟩) (v := .int .i64 r) (by rw [hW1]; simp [go_sem])
    have r1 := cells_later (w := W1) (a := ⟨w.heap.size, 1, none⟩) (v := .int .i64 c) (by rw [hW1]; simp [go_sem])
    have r2 := cells_later (w := W1) (a := ⟨w.heap.size, 2, none⟩) (v := .slice ao xs.length cap) (by rw [hW1]; simp [go_sem])
    have s0 := cells_later (w := W1) (a := ⟨w.heap.size + 1, 0, none⟩) (v := .int .i64 r') (by rw [hW1]; simp [go_sem])
    have s1 := cells_later (w := W1) (a := ⟨w.heap.size + 1, 1, none⟩) (v := .int .i64 c') (by rw [hW1]; simp [go_sem])
    have s2 := cells_later (w := W1) (a := ⟨w.heap.size + 1, 2, none⟩) (v := .slice bo ys.length bcap) (by rw [hW1]; simp [go_sem])
    have HB : Hid (Below w.heap.size w W1) := by rw [hW1]; exact below2 _ _ _
    have HQ : Hid (QS W1 (.slice ao xs.length cap) xs) := by rw [hW1]; exact H.out.later (below2 _ _ _)
    have HQ' : Hid (QS W1 (.slice bo ys.length bcap) ys) := by rw [hW1]; exact H'.out.later (below2 _ _ _)
    clear hW1
    go_wp2_with (first | (go_at_call 11; refine (shown3_any _).mono ?_; rintro e w1 ⟨rfl, hb1⟩) | (go_at_call 12; refine (rright_any _ r c _ xs (HQ.out.later hb1) hl).mono ?_; rw [HT.out]; rintro e w2 ⟨rfl, hb2⟩; have hB2 := below_trans2 hb1 hb2))
    go_ret
    exact ⟨rfl, below_trans2 HB.out hB2⟩
  | true =>
    cases ht' : rightB r' c' ys with
    | false =>
      have HT := Lib.hid ht
      have HT' := Lib.hid ht'
      clear ht ht' 
      go_enter Try.func4, Try.ntmps4
      go_upto_region 1 with fail
      obtain ⟨W1, hW1⟩ : ∃ W1, W1 = (w.alloc (.cells #[.int .i64 r, .int .i64 c, .slice ao xs.length cap] 24)).alloc (.cells #[.int .i64 r', .int .i64 c', .slice bo ys.length bcap] 24) := ⟨_, rfl⟩
      rw [← hW1]
      have r0 := cells_later (w := W1) (a := ⟨w.heap.size, 0, none⟩) (v := .int .i64 r) (by rw [hW1]; simp [go_sem])
      have r1 := cells_later (w := W1) (a := ⟨w.heap.size, 1, none⟩) (v := .int .i64 c) (by rw [hW1]; simp [go_sem])
      have r2 := cells_later (w := W1) (a := ⟨w.heap.size, 2, none⟩) (v := .slice ao xs.length cap) (by rw [hW1]; simp [go_sem])
      have s0 := cells_later (w := W1) (a := ⟨w.heap.size + 1, 0, none⟩) (v := .int .i64 r') (by rw [hW1]; simp [go_sem])
      have s1 := cells_later (w := W1) (a := ⟨w.heap.size + 1, 1, none⟩) (v := .int .i64 c') (by rw [hW1]; simp [go_sem])
      have s2 := cells_later (w := W1) (a := ⟨w.heap.size + 1, 2, none⟩) (v := .slice bo ys.length bcap) (by rw [hW1]; simp [go_sem])
      have HB : Hid (Below w.heap.size w W1) := by rw [hW1]; exact below2 _ _ _
      have HQ : Hid (QS W1 (.slice ao xs.length cap) xs) := by rw [hW1]; exact H.out.later (below2 _ _ _)
      have HQ' : Hid (QS W1 (.slice bo ys.length bcap) ys) := by rw [hW1]; exact H'.out.later (below2 _ _ _)
      clear hW1
      go_wp2_with (first | (go_at_call 11; refine (shown3_any _).mono ?_; rintro e w1 ⟨rfl, hb1⟩) | (go_at_call 12; first | (with_reducible refine (rright_any _ r c _ xs (HQ.out.later hb1) hl).mono ?_; rw [HT.out]; rintro e w2 ⟨rfl, hb2⟩; have hB2 := below_trans2 hb1 hb2) | (with_reducible refine (rright_any _ r' c' _ ys (HQ'.out.later hB2) hl').mono ?_; rw [HT'.out]; rintro e w3 ⟨rfl, hb3⟩; have hB3 := below_trans2 hB2 hb3)))
      go_ret
      exact ⟨rfl, below_trans2 HB.out hB3⟩
    | true =>
      obtain ⟨R, C, rfl, rfl, hR, hC, hlen, hclo⟩ := rightB_parts ht
      obtain ⟨R', C', rfl, rfl, hR', hC', hlen', hclo'⟩ := rightB_parts ht'
      have HT := Lib.hid ht
      have HT' := Lib.hid ht'
      have HLn := Lib.hid hlen
      have HLn' := Lib.hid hlen'
      clear ht ht' hclo hclo' hlen hlen'
      have zx : xs.length ≤ 64 := by rw [HLn.out]; exact mat_len hR hC
      have zy : ys.length ≤ 64 := by rw [HLn'.out]; exact mat_len hR' hC'
      have za := opR_len addQ addO R' C' xs ys hR hC
      have zs := opR_len subQ subO R' C' xs ys hR hC
      have zm := mulR_len C R' xs ys hR hC'
      obtain ⟨pa, hpa⟩ : ∃ p, opR addQ addO R C R' C' xs ys = p := ⟨_, rfl⟩
      obtain ⟨ps, hps⟩ : ∃ p, opR subQ subO R C R' C' xs ys = p := ⟨_, rfl⟩
      obtain ⟨pm, hpm⟩ : ∃ p, mulR R C R' C' xs ys = p := ⟨_, rfl⟩
      have HPpa := Lib.hid hpa
      have HPps := Lib.hid hps
      have HPpm := Lib.hid hpm
      rw [hpa] at za
      rw [hps] at zs
      rw [hpm] at zm
      obtain ⟨sb, hsb⟩ : ∃ t, sameB (R : Int) C xs R' C' ys = t := ⟨_, rfl⟩
      have HSB := Lib.hid hsb
      clear hpa hps hpm hsb
      go_enter Try.func4, Try.ntmps4
      go_upto_region 1 with fail
      obtain ⟨W1, hW1⟩ : ∃ W1, W1 = (w.alloc (.cells #[.int .i64 R, .int .i64 C, .slice ao xs.length cap] 24)).alloc (.cells #[.int .i64 R', .int .i64 C', .slice bo ys.length bcap] 24) := ⟨_, rfl⟩
      rw [← hW1]
      have r0 := cells_later (w := W1) (a := ⟨w.heap.size, 0, none⟩) (v := .int .i64 R) (by rw [hW1]; simp [go_sem])
      have r1 := cells_later (w := W1) (a := ⟨w.heap.size, 1, none⟩) (v := .int .i64 C) (by rw [hW1]; simp [go_sem])
      have r2 := cells_later (w := W1) (a := ⟨w.heap.size, 2, none⟩) (v := .slice ao xs.length cap) (by rw [hW1]; simp [go_sem])
      have s0 := cells_later (w := W1) (a := ⟨w.heap.size + 1, 0, none⟩) (v := .int .i64 R') (by rw [hW1]; simp [go_sem])
      have s1 := cells_later (w := W1) (a := ⟨w.heap.size + 1, 1, none⟩) (v := .int .i64 C') (by rw [hW1]; simp [go_sem])
      have s2 := cells_later (w := W1) (a := ⟨w.heap.size + 1, 2, none⟩) (v := .slice bo ys.length bcap) (by rw [hW1]; simp [go_sem])
      have HB : Hid (Below w.heap.size w W1) := by rw [hW1]; exact below2 _ _ _
      have HQ : Hid (QS W1 (.slice ao xs.length cap) xs) := by rw [hW1]; exact H.out.later (below2 _ _ _)
      have HQ' : Hid (QS W1 (.slice bo ys.length bcap) ys) := by rw [hW1]; exact H'.out.later (below2 _ _ _)
      clear hW1
      have HM : Hid (MV W1 R C (.slice ao xs.length cap) xs) := ⟨HQ.out, HLn.out, hR, hC⟩
      have HM' : Hid (MV W1 R' C' (.slice bo ys.length bcap) ys) := ⟨HQ'.out, HLn'.out, hR', hC'⟩
      go_upto_region 4 with (first | (go_at_call 11; refine (shown3_any _).mono ?_; rintro e w1 ⟨rfl, hb1⟩) | (go_at_call 12; first | (with_reducible refine (rright_any _ R C _ xs (HQ.out.later hb1) hl).mono ?_; rw [HT.out]; rintro e w2 ⟨rfl, hb2⟩; have hB2 := below_trans2 hb1 hb2) | (with_reducible refine (rright_any _ R' C' _ ys (HQ'.out.later hB2) hl').mono ?_; rw [HT'.out]; rintro e w3 ⟨rfl, hb3⟩; have hB3 := below_trans2 hB2 hb3)))
      have hB0 := hB3
      clear hb1 hb2 hb3 hB2 hB3
      go_upto_region 5 with (go_at_call 16; refine (madd_all _ R C R' C' _ _ xs ys (HM.out.later hB0) (HM'.out.later hB0)).mono ?_; rw [HPpa.out]; rintro e v1 ⟨ao1, cap1, rfl, hq1, hb1⟩)
      have hQ1 := hq1.later (below1 _ (.cells #[.int .i64 pa.r, .int .i64 pa.c, .slice ao1 pa.xs.length cap1] 24))
      have hS1 := below_al hb1 (.cells #[.int .i64 pa.r, .int .i64 pa.c, .slice ao1 pa.xs.length cap1] 24)
      have hT1 := below_trans2 hB0 hS1
      obtain ⟨V1, hV1⟩ : ∃ V, V = v1.alloc (.cells #[.int .i64 pa.r, .int .i64 pa.c, .slice ao1 pa.xs.length cap1] 24) := ⟨_, rfl⟩
      obtain ⟨g1, hg1⟩ : ∃ g, g = v1.heap.size := ⟨_, rfl⟩
      rw [← hV1] at hQ1 hS1 hT1 ⊢
      rw [← hg1]
      have p10 := cells_later (w := V1) (a := ⟨g1, 0, none⟩) (v := .int .i64 pa.r) (by rw [hV1, hg1]; simp [go_sem])
      have p11 := cells_later (w := V1) (a := ⟨g1, 1, none⟩) (v := .int .i64 pa.c) (by rw [hV1, hg1]; simp [go_sem])
      have p12 := cells_later (w := V1) (a := ⟨g1, 2, none⟩) (v := .slice ao1 pa.xs.length cap1) (by rw [hV1, hg1]; simp [go_sem])
      have HX1 := Lib.hid hQ1
      have HS1 := Lib.hid hS1
      clear hq1 hQ1 hb1 hS1 hV1 hg1
      go_upto_region 6 with (go_at_call 17; refine (radd3_all _ R C R' C' _ _ xs ys (HM.out.later hT1) (HM'.out.later hT1)).mono ?_; rw [HPpa.out]; rintro e v2 ⟨ao2, cap2, rfl, hq2, hb2⟩)
      have hQ2 := hq2.later (below1 _ (.cells #[.int .i64 pa.r, .int .i64 pa.c, .slice ao2 pa.xs.length cap2] 24))
      have hS2 := below_al hb2 (.cells #[.int .i64 pa.r, .int .i64 pa.c, .slice ao2 pa.xs.length cap2] 24)
      have hT2 := below_trans2 hT1 hS2
      obtain ⟨V2, hV2⟩ : ∃ V, V = v2.alloc (.cells #[.int .i64 pa.r, .int .i64 pa.c, .slice ao2 pa.xs.length cap2] 24) := ⟨_, rfl⟩
      obtain ⟨g2, hg2⟩ : ∃ g, g = v2.heap.size := ⟨_, rfl⟩
      rw [← hV2] at hQ2 hS2 hT2 ⊢
      rw [← hg2]
      have p20 := cells_later (w := V2) (a := ⟨g2, 0, none⟩) (v := .int .i64 pa.r) (by rw [hV2, hg2]; simp [go_sem])
      have p21 := cells_later (w := V2) (a := ⟨g2, 1, none⟩) (v := .int .i64 pa.c) (by rw [hV2, hg2]; simp [go_sem])
      have p22 := cells_later (w := V2) (a := ⟨g2, 2, none⟩) (v := .slice ao2 pa.xs.length cap2) (by rw [hV2, hg2]; simp [go_sem])
      have HX2 := Lib.hid hQ2
      have HS2 := Lib.hid hS2
      clear hq2 hQ2 hb2 hS2 hV2 hg2
      go_upto_region 7 with (go_at_call 18; refine (msub_all _ R C R' C' _ _ xs ys (HM.out.later hT2) (HM'.out.later hT2)).mono ?_; rw [HPps.out]; rintro e v3 ⟨ao3, cap3, rfl, hq3, hb3⟩)
      have hQ3 := hq3.later (below1 _ (.cells #[.int .i64 ps.r, .int .i64 ps.c, .slice ao3 ps.xs.length cap3] 24))
      have hS3 := below_al hb3 (.cells #[.int .i64 ps.r, .int .i64 ps.c, .slice ao3 ps.xs.length cap3] 24)
      have hT3 := below_trans2 hT2 hS3
      obtain ⟨V3, hV3⟩ : ∃ V, V = v3.alloc (.cells #[.int .i64 ps.r, .int .i64 ps.c, .slice ao3 ps.xs.length cap3] 24) := ⟨_, rfl⟩
      obtain ⟨g3, hg3⟩ : ∃ g, g = v3.heap.size := ⟨_, rfl⟩
      rw [← hV3] at hQ3 hS3 hT3 ⊢
      rw [← hg3]
      have p30 := cells_later (w := V3) (a := ⟨g3, 0, none⟩) (v := .int .i64 ps.r) (by rw [hV3, hg3]; simp [go_sem])
      have p31 := cells_later (w := V3) (a := ⟨g3, 1, none⟩) (v := .int .i64 ps.c) (by rw [hV3, hg3]; simp [go_sem])
      have p32 := cells_later (w := V3) (a := ⟨g3, 2, none⟩) (v := .slice ao3 ps.xs.length cap3) (by rw [hV3, hg3]; simp [go_sem])
      have HX3 := Lib.hid hQ3
      have HS3 := Lib.hid hS3
      clear hq3 hQ3 hb3 hS3 hV3 hg3
      go_upto_region 8 with (go_at_call 19; refine (rsub3_all _ R C R' C' _ _ xs ys (HM.out.later hT3) (HM'.out.later hT3)).mono ?_; rw [HPps.out]; rintro e v4 ⟨ao4, cap4, rfl, hq4, hb4⟩)
      have hQ4 := hq4.later (below1 _ (.cells #[.int .i64 ps.r, .int .i64 ps.c, .slice ao4 ps.xs.length cap4] 24))
      have hS4 := below_al hb4 (.cells #[.int .i64 ps.r, .int .i64 ps.c, .slice ao4 ps.xs.length cap4] 24)
      have hT4 := below_trans2 hT3 hS4
      obtain ⟨V4, hV4⟩ : ∃ V, V = v4.alloc (.cells #[.int .i64 ps.r, .int .i64 ps.c, .slice ao4 ps.xs.length cap4] 24) := ⟨_, rfl⟩
      obtain ⟨g4, hg4⟩ : ∃ g, g = v4.heap.size := ⟨_, rfl⟩
      rw [← hV4] at hQ4 hS4 hT4 ⊢
      rw [← hg4]
      have p40 := cells_later (w := V4) (a := ⟨g4, 0, none⟩) (v := .int .i64 ps.r) (by rw [hV4, hg4]; simp [go_sem])
      have p41 := cells_later (w := V4) (a := ⟨g4, 1, none⟩) (v := .int .i64 ps.c) (by rw [hV4, hg4]; simp [go_sem])
      have p42 := cells_later (w := V4) (a := ⟨g4, 2, none⟩) (v := .slice ao4 ps.xs.length cap4) (by rw [hV4, hg4]; simp [go_sem])
      have HX4 := Lib.hid hQ4
      have HS4 := Lib.hid hS4
      clear hq4 hQ4 hb4 hS4 hV4 hg4
      go_upto_region 9 with (go_at_call 20; refine (mmul_all _ R C R' C' _ _ xs ys (HM.out.later hT4) (HM'.out.later hT4)).mono ?_; rw [HPpm.out]; rintro e v5 ⟨ao5, cap5, rfl, hq5, hb5⟩)
      have hQ5 := hq5.later (below1 _ (.cells #[.int .i64 pm.r, .int .i64 pm.c, .slice ao5 pm.xs.length cap5] 24))
      have hS5 := below_al hb5 (.cells #[.int .i64 pm.r, .int .i64 pm.c, .slice ao5 pm.xs.length cap5] 24)
      have hT5 := below_trans2 hT4 hS5
      obtain ⟨V5, hV5⟩ : ∃ V, V = v5.alloc (.cells #[.int .i64 pm.r, .int .i64 pm.c, .slice ao5 pm.xs.length cap5] 24) := ⟨_, rfl⟩
      obtain ⟨g5, hg5⟩ : ∃ g, g = v5.heap.size := ⟨_, rfl⟩
      rw [← hV5] at hQ5 hS5 hT5 ⊢
      rw [← hg5]
      have p50 := cells_later (w := V5) (a := ⟨g5, 0, none⟩) (v := .int .i64 pm.r) (by rw [hV5, hg5]; simp [go_sem])
      have p51 := cells_later (w := V5) (a := ⟨g5, 1, none⟩) (v := .int .i64 pm.c) (by rw [hV5, hg5]; simp [go_sem])
      have p52 := cells_later (w := V5) (a := ⟨g5, 2, none⟩) (v := .slice ao5 pm.xs.length cap5) (by rw [hV5, hg5]; simp [go_sem])
      have HX5 := Lib.hid hQ5
      have HS5 := Lib.hid hS5
      clear hq5 hQ5 hb5 hS5 hV5 hg5
      go_upto_region 10 with (go_at_call 21; refine (rmul3_all _ R C R' C' _ _ xs ys (HM.out.later hT5) (HM'.out.later hT5)).mono ?_; rw [HPpm.out]; rintro e v6 ⟨ao6, cap6, rfl, hq6, hb6⟩)
      have hQ6 := hq6.later (below1 _ (.cells #[.int .i64 pm.r, .int .i64 pm.c, .slice ao6 pm.xs.length cap6] 24))
      have hS6 := below_al hb6 (.cells #[.int .i64 pm.r, .int .i64 pm.c, .slice ao6 pm.xs.length cap6] 24)
      have hT6 := below_trans2 hT5 hS6
      obtain ⟨V6, hV6⟩ : ∃ V, V = v6.alloc (.cells #[.int .i64 pm.r, .int .i64 pm.c, .slice ao6 pm.xs.length cap6] 24) := ⟨_, rfl⟩
      obtain ⟨g6, hg6⟩ : ∃ g, g = v6.heap.size := ⟨_, rfl⟩
      rw [← hV6] at hQ6 hS6 hT6 ⊢
      rw [← hg6]
      have p60 := cells_later (w := V6) (a := ⟨g6, 0, none⟩) (v := .int .i64 pm.r) (by rw [hV6, hg6]; simp [go_sem])
      have p61 := cells_later (w := V6) (a := ⟨g6, 1, none⟩) (v := .int .i64 pm.c) (by rw [hV6, hg6]; simp [go_sem])
      have p62 := cells_later (w := V6) (a := ⟨g6, 2, none⟩) (v := .slice ao6 pm.xs.length cap6) (by rw [hV6, hg6]; simp [go_sem])
      have HX6 := Lib.hid hQ6
      have HS6 := Lib.hid hS6
      clear hq6 hQ6 hb6 hS6 hV6 hg6
      have hU6 := Below.refl V6.heap.size V6
      have hU5 := below_trans2 HS6.out hU6
      have hU4 := below_trans2 HS5.out hU5
      have hU3 := below_trans2 HS4.out hU4
      have hU2 := below_trans2 HS3.out hU3
      have hU1 := below_trans2 HS2.out hU2
      have p10 := cells_later (p10 _ hU1)
      have p11 := cells_later (p11 _ hU1)
      have p12 := cells_later (p12 _ hU1)
      have HY1 := Lib.hid (HX1.out.later hU1)
      have p20 := cells_later (p20 _ hU2)
      have p21 := cells_later (p21 _ hU2)
      have p22 := cells_later (p22 _ hU2)
      have HY2 := Lib.hid (HX2.out.later hU2)
      have p30 := cells_later (p30 _ hU3)
      have p31 := cells_later (p31 _ hU3)
      have p32 := cells_later (p32 _ hU3)
      have HY3 := Lib.hid (HX3.out.later hU3)
      have p40 := cells_later (p40 _ hU4)
      have p41 := cells_later (p41 _ hU4)
      have p42 := cells_later (p42 _ hU4)
      have HY4 := Lib.hid (HX4.out.later hU4)
      have p50 := cells_later (p50 _ hU5)
      have p51 := cells_later (p51 _ hU5)
      have p52 := cells_later (p52 _ hU5)
      have HY5 := Lib.hid (HX5.out.later hU5)
      have p60 := cells_later (p60 _ hU6)
      have p61 := cells_later (p61 _ hU6)
      have p62 := cells_later (p62 _ hU6)
      have HY6 := Lib.hid (HX6.out.later hU6)
      have r0 := cells_later (r0 _ hT6)
      have r1 := cells_later (r1 _ hT6)
      have r2 := cells_later (r2 _ hT6)
      have s0 := cells_later (s0 _ hT6)
      have s1 := cells_later (s1 _ hT6)
      have s2 := cells_later (s2 _ hT6)
      have HM6 := Lib.hid (HM.out.later hT6)
      have HM6' := Lib.hid (HM'.out.later hT6)
      have HB6 := Lib.hid (below_trans2 HB.out hT6)
      clear hU1 hU2 hU3 hU4 hU5 hB0 hT1 hT2 hT3 hT4 hT5 hT6
      go_upto_region 11 with (go_at_call 15; first | (with_reducible refine (rsame_any _ pa.r pa.c pa.r pa.c _ _ pa.xs pa.xs (HY1.out.later (by first | assumption | exact below_drew _ | exact Below.drew (by assumption))) (HY2.out.later (by first | assumption | exact below_drew _ | exact Below.drew (by assumption))) (by omega) (by omega)).mono ?_; rw [sameB_self]; rintro e w' ⟨rfl, hb⟩; have hk : Below V6.heap.size V6 w' := (by first | exact hb | exact below_tr2 hb (by assumption) | exact below_trans2 (below_drew _) hb | exact below_tr2 hb (Below.drew (by assumption)))) | (with_reducible refine (rsame_any _ ps.r ps.c ps.r ps.c _ _ ps.xs ps.xs (HY3.out.later (by first | assumption | exact below_drew _ | exact Below.drew (by assumption))) (HY4.out.later (by first | assumption | exact below_drew _ | exact Below.drew (by assumption))) (by omega) (by omega)).mono ?_; rw [sameB_self]; rintro e w' ⟨rfl, hb⟩; have hk : Below V6.heap.size V6 w' := (by first | exact hb | exact below_tr2 hb (by assumption) | exact below_trans2 (below_drew _) hb | exact below_tr2 hb (Below.drew (by assumption)))))
      first | (go_region_held3 (fun w' => Below V6.heap.size V6 w') (first | assumption | exact below_drew _ | exact Below.drew (by assumption) | exact below_tr (by assumption) (by assumption) | exact below_tr2 (by assumption) (by assumption)) (first | (go_at_call 22; with_reducible refine (msame_any _ R C R' C' _ _ xs ys (HM6.out.qs.later (by first | assumption | exact below_drew _ | exact Below.drew (by assumption))) (HM6'.out.qs.later (by first | assumption | exact below_drew _ | exact Below.drew (by assumption))) hl hl').mono ?_; rw [HSB.out]; rintro e w' ⟨rfl, hb⟩; have hk : Below V6.heap.size V6 w' := (by first | exact hb | exact below_tr2 hb (by assumption) | exact below_trans2 (below_drew _) hb | exact below_tr2 hb (Below.drew (by assumption)))) | (go_at_call 15; first | (with_reducible refine (rsame_any _ pm.r pm.c pm.r pm.c _ _ pm.xs pm.xs (HY5.out.later (by first | assumption | exact below_drew _ | exact Below.drew (by assumption))) (HY6.out.later (by first | assumption | exact below_drew _ | exact Below.drew (by assumption))) (by omega) (by omega)).mono ?_; rw [sameB_self]; rintro e w' ⟨rfl, hb⟩; have hk : Below V6.heap.size V6 w' := (by first | exact hb | exact below_tr2 hb (by assumption) | exact below_trans2 (below_drew _) hb | exact below_tr2 hb (Below.drew (by assumption)))) | (with_reducible refine (rsame_any _ R C R' C' _ _ xs ys (HM6.out.qs.later (by first | assumption | exact below_drew _ | exact Below.drew (by assumption))) (HM6'.out.qs.later (by first | assumption | exact below_drew _ | exact Below.drew (by assumption))) hl hl').mono ?_; rw [HSB.out]; rintro e w' ⟨rfl, hb⟩; have hk : Below V6.heap.size V6 w' := (by first | exact hb | exact below_tr2 hb (by assumption) | exact below_trans2 (below_drew _) hb | exact below_tr2 hb (Below.drew (by assumption))))))) | fail
      all_goals
        go_wp2_with fail
        go_ret
        exact ⟨rfl, below_trans2 HB6.out (by assumption)⟩

end Go.Proofs.Ytijohedhbbddjaa
