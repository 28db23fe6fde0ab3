/- The walk of the law MatScales. -/
import Derived.Test.YtijohedhbbddjaaS3
import Derived.Test.YtijohedhbbddjaaM3
namespace Go.Proofs.Ytijohedhbbddjaa
open Go.RowKit

theorem rightB_parts {r c : Int} {xs : List Int} (h : rightB r c xs = true) : ∃ R C : Nat, r = R ∧ c = C ∧ R ≤ 8 ∧ C ≤ 8 ∧ xs.length = R * C ∧ xs.any clo = false := by
  unfold rightB at h
  simp only [Bool.and_eq_true, decide_eq_true_eq, Bool.not_eq_true'] at h
  obtain ⟨⟨h1, h2, h3, h4, h5⟩, h6⟩ := h
  refine ⟨r.toNat, c.toNat, by omega, by omega, by omega, by omega, ?_, h6⟩
  obtain ⟨R, rfl⟩ := Int.eq_ofNat_of_zero_le (show 0 ≤ r by omega)
  obtain ⟨C, rfl⟩ := Int.eq_ofNat_of_zero_le (show 0 ≤ c by omega)
  simp only [Int.ofNat_eq_natCast, Int.toNat_natCast] at *
  have : (xs.length : Int) = ((R * C : Nat) : Int) := by rw [h5]; simp
  omega

set_option maxRecDepth 100000 in
set_option maxHeartbeats 1000000 in
theorem matScales_any (w : World) (r c q : Int) (v : Value) (xs : List Int) (h : QS w v xs) (hl : xs.length ≤ 9223372036854775807) :
    Calls Try.prog 3 #[.agg #[.int .i64 r, .int .i64 c, v], .int .i64 q] w fun e w' => e = .returned (.bool true) ∧ Below w.heap.size w w' := by
  obtain ⟨ao, cap, hv, -⟩ := id h
  subst hv
  have H := Lib.hid h
  clear h
  cases ht : rightB r c xs with
  | false =>
    have HT := Lib.hid ht
    clear ht
    go_enter Try.func3, Try.ntmps3
    go_upto_region 1 with fail
    obtain ⟨W1, hW1⟩ : ∃ W1, W1 = w.alloc (.cells #[.int .i64 r, .int .i64 c, .slice ao xs.length cap] 24) := ⟨_, rfl⟩
    rw [← hW1]
    have r0 := cells_later (w := W1) (a := ⟨w.heap.size, 0, none⟩) (v := .int .i64 r) (by rw [hW1]; simp [go_sem])
    have r1 := cells_later (w := W1) (a := ⟨w.heap.size, 1, none⟩) (v := .int .i64 c) (by rw [hW1]; simp [go_sem])
    have r2 := cells_later (w := W1) (a := ⟨w.heap.size, 2, none⟩) (v := .slice ao xs.length cap) (by rw [hW1]; simp [go_sem])
    have HB : Hid (Below w.heap.size w W1) := by rw [hW1]; exact below1 _ _
    have HQ : Hid (QS W1 (.slice ao xs.length cap) xs) := by rw [hW1]; exact H.out.later (below1 _ _)
    clear hW1
    go_wp2_with (first | (go_at_call 11; refine (shown3_any _).mono ?_; rintro e w1 ⟨rfl, hb1⟩) | (go_at_call 12; refine (rright_any _ r c _ xs (HQ.out.later hb1) hl).mono ?_; rw [HT.out]; rintro e w2 ⟨rfl, hb2⟩; have hB2 := below_trans2 hb1 hb2))
    go_ret
    exact ⟨rfl, below_trans2 HB.out hB2⟩
  | true =>
    obtain ⟨R, C, rfl, rfl, hR, hC, hlen, hclo⟩ := rightB_parts ht
    have HT := Lib.hid ht
    have HLen := Lib.hid hlen
    have HClo := Lib.hid hclo
    clear ht hlen hclo
    have hl64 : xs.length ≤ 64 := by rw [HLen.out]; exact mat_len hR hC
    go_enter Try.func3, Try.ntmps3
    go_upto_region 1 with fail
    obtain ⟨W1, hW1⟩ : ∃ W1, W1 = w.alloc (.cells #[.int .i64 R, .int .i64 C, .slice ao xs.length cap] 24) := ⟨_, rfl⟩
    rw [← hW1]
    have r0 := cells_later (w := W1) (a := ⟨w.heap.size, 0, none⟩) (v := .int .i64 R) (by rw [hW1]; simp [go_sem])
    have r1 := cells_later (w := W1) (a := ⟨w.heap.size, 1, none⟩) (v := .int .i64 C) (by rw [hW1]; simp [go_sem])
    have r2 := cells_later (w := W1) (a := ⟨w.heap.size, 2, none⟩) (v := .slice ao xs.length cap) (by rw [hW1]; simp [go_sem])
    have HB : Hid (Below w.heap.size w W1) := by rw [hW1]; exact below1 _ _
    have HQ : Hid (QS W1 (.slice ao xs.length cap) xs) := by rw [hW1]; exact H.out.later (below1 _ _)
    clear hW1
    have HM : Hid (MV W1 R C (.slice ao xs.length cap) xs) := ⟨HQ.out, HLen.out, hR, hC⟩
    go_upto_region 4 with (first | (go_at_call 11; refine (shown3_any _).mono ?_; rintro e w1 ⟨rfl, hb1⟩) | (go_at_call 12; refine (rright_any _ R C _ xs (HQ.out.later hb1) hl).mono ?_; rw [HT.out]; rintro e w2 ⟨rfl, hb2⟩; have hB2 := below_trans2 hb1 hb2))
    go_upto_region 5 with (go_at_call 13; refine (scale_any _ R C _ xs _ (HM.out.later hB2)).mono ?_; rw [scale_one HLen.out HClo.out, scaleO_one HLen.out HClo.out]; rintro e w3 ⟨ao3, cap3, rfl, hown3, hb3⟩)
    have hQ3 := (QS.of_owns hown3).later (below1 _ (.cells #[.int .i64 R, .int .i64 C, .slice ao3 (R * C) cap3] 24))
    have hB3 := below_al (below_trans2 hB2 hb3) (.cells #[.int .i64 R, .int .i64 C, .slice ao3 (R * C) cap3] 24)
    obtain ⟨W3, hW3⟩ : ∃ W3, W3 = w3.alloc (.cells #[.int .i64 R, .int .i64 C, .slice ao3 (R * C) cap3] 24) := ⟨_, rfl⟩
    obtain ⟨g3, hg3⟩ : ∃ g, g = w3.heap.size := ⟨_, rfl⟩
    rw [← hW3] at hQ3 hB3 ⊢
    rw [← hg3]
    have p0 := cells_later (w := W3) (a := ⟨g3, 0, none⟩) (v := .int .i64 R) (by rw [hW3, hg3]; simp [go_sem])
    have p1 := cells_later (w := W3) (a := ⟨g3, 1, none⟩) (v := .int .i64 C) (by rw [hW3, hg3]; simp [go_sem])
    have p2 := cells_later (w := W3) (a := ⟨g3, 2, none⟩) (v := .slice ao3 (R * C) cap3) (by rw [hW3, hg3]; simp [go_sem])
    clear hown3 hW3 hg3
    go_upto_region 6 with (go_at_call 13; refine (scale_any _ R C _ xs _ (HM.out.later hB3)).mono ?_; rw [scale_zero HLen.out, scaleO_zero HLen.out HClo.out]; rintro e w4 ⟨ao4, cap4, rfl, hown4, hb4⟩)
    have hQ4 := (QS.of_owns hown4).later (below1 _ (.cells #[.int .i64 R, .int .i64 C, .slice ao4 (R * C) cap4] 24))
    have hB34 := below_al hb4 (.cells #[.int .i64 R, .int .i64 C, .slice ao4 (R * C) cap4] 24)
    obtain ⟨W4, hW4⟩ : ∃ W4, W4 = w4.alloc (.cells #[.int .i64 R, .int .i64 C, .slice ao4 (R * C) cap4] 24) := ⟨_, rfl⟩
    obtain ⟨g4, hg4⟩ : ∃ g, g = w4.heap.size := ⟨_, rfl⟩
    rw [← hW4] at hQ4 hB34 ⊢
    rw [← hg4]
    have hB4 := below_trans2 hB3 hB34
    have q0 := cells_later (w := W4) (a := ⟨g4, 0, none⟩) (v := .int .i64 R) (by rw [hW4, hg4]; simp [go_sem])
    have q1 := cells_later (w := W4) (a := ⟨g4, 1, none⟩) (v := .int .i64 C) (by rw [hW4, hg4]; simp [go_sem])
    have q2 := cells_later (w := W4) (a := ⟨g4, 2, none⟩) (v := .slice ao4 (R * C) cap4) (by rw [hW4, hg4]; simp [go_sem])
    clear hown4 hW4 hg4
    go_upto_region 7 with (go_at_call 13; refine (scale_any _ R C _ xs _ (HM.out.later hB4)).mono ?_; rw [tab_map (fun x => mulQ x q) xs R C HLen.out]; rintro e w5 ⟨ao5, cap5, rfl, hown5, hb5⟩)
    have hQ5 := (QS.of_owns hown5).later (below1 _ (.cells #[.int .i64 R, .int .i64 C, .slice ao5 (R * C) cap5] 24))
    have hB45 := below_al hb5 (.cells #[.int .i64 R, .int .i64 C, .slice ao5 (R * C) cap5] 24)
    obtain ⟨W5, hW5⟩ : ∃ W5, W5 = w5.alloc (.cells #[.int .i64 R, .int .i64 C, .slice ao5 (R * C) cap5] 24) := ⟨_, rfl⟩
    obtain ⟨g5, hg5⟩ : ∃ g, g = w5.heap.size := ⟨_, rfl⟩
    rw [← hW5] at hQ5 hB45 ⊢
    rw [← hg5]
    have hB5 := below_trans2 hB4 hB45
    have hB35 := below_trans2 hB34 hB45
    have s0 : W5.cell? ⟨g5, 0, none⟩ = some (.int .i64 R) := by rw [hW5, hg5]; simp [go_sem]
    have s1 : W5.cell? ⟨g5, 1, none⟩ = some (.int .i64 C) := by rw [hW5, hg5]; simp [go_sem]
    have s2 : W5.cell? ⟨g5, 2, none⟩ = some (.slice ao5 (R * C) cap5) := by rw [hW5, hg5]; simp [go_sem]
    clear hown5 hW5 hg5
    have p0 := p0 _ hB35
    have p1 := p1 _ hB35
    have p2 := p2 _ hB35
    have q0 := q0 _ hB45
    have q1 := q1 _ hB45
    have q2 := q2 _ hB45
    have r0 := r0 _ hB5
    have r1 := r1 _ hB5
    have r2 := r2 _ hB5
    have HQ1 := Lib.hid (HQ.out.later hB5)
    have HQ3 := Lib.hid (hQ3.later hB35)
    have HQ4 := Lib.hid (hQ4.later hB45)
    have HQ5 := Lib.hid hQ5
    have HB5 := Lib.hid (below_trans2 HB.out hB5)
    clear hQ3 hQ4 hQ5 hB2 hB3 hB34 hB4 hB45 hB5 hB35 hb1 hb2 hb3 hb4 hb5
    have e1 : ((R * C : Nat) : Int) = (xs.length : Int) := by rw [HLen.out]
    go_wp2_with fail
    go_loopg [12] xs.length (fun n kv wr => W5 = wr ∧ ∃ k : Nat, k ≤ xs.length ∧ n = xs.length - k ∧ kv = .int .i64 k)
    case atStart => exact ⟨rfl, 0, by omega, by omega, rfl⟩
    case round =>
      obtain ⟨rfl, k, hk, rfl, rfl⟩ := hrel
      by_cases hlt : k < xs.length
      · obtain ⟨b, off, rfl, hc⟩ := qs_cell HQ1.out hlt
        obtain ⟨b4, off4, c4, he4, hc4⟩ := HQ4.out.cell (i := k) (by simpa using hlt)
        obtain ⟨b5, off5, c5, he5, hc5⟩ := HQ5.out.cell (i := k) (by simpa using hlt)
        injection he4 with h1 h2 h3; subst h1; subst h3; clear h2
        injection he5 with h1 h2 h3; subst h1; subst h3; clear h2
        simp only [List.getElem_map] at hc4 hc5
        obtain ⟨x, hx⟩ : ∃ x, xs[k] = x := ⟨_, rfl⟩
        rw [hx] at hc hc5
        clear hx
        have hk1 : (k : Int) < (xs.length : Int) := by omega
        have hk2 : (k : Int) < ((R * C : Nat) : Int) := by omega
        have hk3 : (0 : Int) ≤ (k : Int) := by omega
        go_wp2_with (go_at_call 14; refine (rmul_any _ _ _).mono ?_; rintro e w' ⟨rfl, rfl⟩)
        go_roundg (xs.length - (k + 1))
        case measure => omega
        case rel => exact ⟨rfl, k + 1, by omega, rfl, by go_num⟩
      · have hkl : k = xs.length := by omega
        subst hkl
        have hs : sameB R C xs R C xs = true := by simp [sameB]
        go_wp2_with (go_at_call 15; refine (rsame_any _ R C R C _ _ xs xs HQ3.out HQ1.out hl hl).mono ?_; rw [hs]; rintro e w6 ⟨rfl, hb6⟩)
        go_ret
        exact ⟨rfl, below_trans2 HB5.out (by assumption)⟩

end Go.Proofs.Ytijohedhbbddjaa
