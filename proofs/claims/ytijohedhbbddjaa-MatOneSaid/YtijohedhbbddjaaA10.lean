/- The walks of mat.Diag and its closure. -/
import Derived.Test.YtijohedhbbddjaaR39
namespace Go.Proofs.Ytijohedhbbddjaa
open Go.RowKit

theorem enters_diag : Enters 87 := enters_of Try.func87 (by kernel_rfl) (by kernel_rfl)

set_option maxHeartbeats 1000000 in
theorem diag_tells (w : World) (b : Nat) (v : Value) (xs : List Int) (hb : w.cell? ⟨b, 0, none⟩ = some v) (hq : QS w v xs) (hn : xs.length ≤ 8) :
    Tells 87 #[.pointer (some ⟨b, 0, none⟩)] w xs.length xs.length (fun i k => if i = k then xs.getD i 0 else 0) (fun _ _ => false) := by
  intro i k wx hi hk hbx
  show Calls Try.prog 87 #[.int .i64 i, .int .i64 k, .pointer (some ⟨b, 0, none⟩)] wx fun e w' => e = .returned (.tuple #[.int .i64 (if i = k then xs.getD i 0 else 0), .bool false]) ∧ Below wx.heap.size wx w'
  obtain ⟨ao, cap, hv, -⟩ := id hq
  subst hv
  have hc := cell_later hbx hb
  have hqx := hq.later hbx
  obtain ⟨b', off, rfl, hcx⟩ := qs_cell hqx hi
  have hx : xs.getD i 0 = xs[i] := by simp [hi]
  have hi1 : (i : Int) < (xs.length : Int) := by omega
  have hi0 : (0 : Int) ≤ (i : Int) := by omega
  by_cases he : i = k
  · subst he
    rw [show (if i = i then xs.getD i 0 else 0) = xs[i] by rw [if_pos rfl, hx]]
    obtain ⟨x, hxe⟩ : ∃ x, xs[i] = x := ⟨_, rfl⟩
    rw [hxe] at hcx ⊢
    clear hxe hx hq hqx hb
    go_enter Try.func87, Try.ntmps87
    go_wp2_with fail
    go_ret2
    exact ⟨rfl, Below.refl _ _⟩
  · have hne : ((i : Int) == (k : Int)) = false := by simp; omega
    rw [show (if i = k then xs.getD i 0 else 0) = 0 from if_neg he]
    clear hx hq hqx hb he
    go_enter Try.func87, Try.ntmps87
    go_wp2_with fail
    go_ret2
    exact ⟨rfl, Below.refl _ _⟩

theorem rightB_row (xs : List Int) : rightB 1 xs.length xs = decide (1 ≤ xs.length ∧ xs.length ≤ 8 ∧ xs.any clo = false) := by
  unfold rightB
  cases xs.any clo with
  | true => simp
  | false =>
    simp only [Bool.not_false, Bool.and_true]
    congr 1
    apply propext
    constructor
    · rintro ⟨-, -, h1, h2, -⟩; exact ⟨by omega, by omega, trivial⟩
    · rintro ⟨h1, h2, -⟩; exact ⟨by omega, by omega, by omega, by omega, by omega⟩

set_option maxRecDepth 100000 in
set_option maxHeartbeats 2000000 in
theorem diag_any (w : World) (v : Value) (xs : List Int) (h : QS w v xs) (hl : xs.length ≤ 9223372036854775807) :
    Calls Try.prog 30 #[v] w (Gives1 (diagR xs) w) := by
  obtain ⟨ao, cap, hv, -⟩ := id h
  subst hv
  have H := Lib.hid h
  clear h
  by_cases hok : 1 ≤ xs.length ∧ xs.length ≤ 8 ∧ xs.any clo = false
  · have hy : diagR xs = ⟨xs.length, xs.length, dgL xs xs.length, false, 0⟩ := if_pos hok
    have HRB : Hid (rightB 1 xs.length xs = true) := by show _ = true; rw [rightB_row]; exact decide_eq_true hok
    obtain ⟨hn1, hn8, -⟩ := hok
    rw [hy]
    clear hy
    go_enter Try.func30, Try.ntmps30
    go_upto_region 2 with fail
    obtain ⟨W0, hW0⟩ : ∃ W0, W0 = (w.alloc (.cells #[.slice ao xs.length cap] 22)).alloc (.cells #[.int .i64 0, .int .i64 0, .slice none 0 0] 24) := ⟨_, rfl⟩
    rw [← hW0]
    have r0 := cells_later (w := W0) (a := ⟨w.heap.size, 0, none⟩) (v := .slice ao xs.length cap) (by rw [hW0]; simp [go_sem])
    have HQ : Hid (QS W0 (.slice ao xs.length cap) xs) := by rw [hW0]; exact H.out.later (below2 _ _ _)
    have HR : Hid (W0.heap[w.heap.size + 1]? = some (.cells #[.int .i64 0, .int .i64 0, .slice none 0 0] 24 (0, 0))) := by rw [hW0]; exact heap_at _ _ _ (by simp)
    have HBw : Hid (Below w.heap.size w W0) := by rw [hW0]; exact below2 _ _ _
    have hsz : w.heap.size + 1 < W0.heap.size := by rw [hW0]; simp
    clear hW0
    have HC := Lib.hid r0
    have q0 := r0 _ (Below.refl _ _)
    go_upto_region 4 with (go_at_call 32; refine (right_any _ 1 xs.length _ xs HQ.out hl).mono ?_; rw [HRB.out]; rintro e w1 ⟨rfl, hb1⟩)
    clear q0
    go_upto_region 5 with (go_at_call 69; refine (made_any 87 _ _ xs.length xs.length _ _ hn8 hn8 enters_diag (diag_tells _ w.heap.size _ xs (HC.out _ hb1) (HQ.out.later hb1) hn8)).mono ?_; rintro e w3 ⟨ao', cap', rfl, hown, hb3⟩)
    have hb := below_trans2 hb1 hb3
    have hR := block_later HR.out hb
    have t0 := cell_of_row _ _ 0 _ _ _ hR
    have t1 := cell_of_row _ _ 1 _ _ _ hR
    have t2 := cell_of_row _ _ 2 _ _ _ hR
    simp only [List.getElem?_toArray, List.getElem?_cons_succ, List.getElem?_cons_zero] at t0 t1 t2
    have f0 := frozen_of_row _ _ 0 _ _ hR
    have f1 := frozen_of_row _ _ 1 _ _ hR
    have f2 := frozen_of_row _ _ 2 _ _ hR
    have hz : w.heap.size + 1 < w3.heap.size := lt_of_block hR
    have hs1 := hb1.size
    have HL2 : Hid ((dgL xs xs.length).length = xs.length * xs.length) := by unfold dgL; show _ = _; rw [tab_length]
    go_wp2_with fail
    have h3 := heap_store3 _ _ _ _ _ (.int .i64 xs.length) (.int .i64 xs.length) (.slice ao' (xs.length * xs.length) cap') _ hR
    refine bodyPost_ret (results_row1 rfl _ _ _ _ _ _ _ rfl ((heap_old _ _ _ (by simpa using hz)).trans h3) Try.underlying24 rfl (by kernel_rfl)) rfl ⟨ao', cap', ?_, ?_, ?_⟩
    · show _ = Ending.returned (.tuple #[.agg #[_, _, .slice ao' (dgL xs xs.length).length cap'], _])
      rw [HL2.out]
      rfl
    · show World.ownsRow _ _ _ _ (.slice ao' (dgL xs xs.length).length cap') (dgL xs xs.length).length _
      rw [HL2.out]
      exact ownsRow_base ((owns_set3 hown (by omega) _ _ _).alloc _) (by omega)
    · exact (below_set3 (below_trans2 HBw.out hb) (by omega) _ _ _).alloc (by simp; omega) _
  · have hd : diagR xs = ⟨0, 0, [], false, 1⟩ := if_neg hok
    rw [hd]
    clear hd
    by_cases h0 : xs.length = 0
    · clear hok
      go_enter Try.func30, Try.ntmps30
      go_wp2_with fail
      refine bodyPost_ret (results_row1 rfl _ _ _ _ _ _ _ rfl (heap_at _ _ _ (by simp)) Try.underlying24 rfl (by kernel_rfl)) rfl (gives1_no _ _ (below2 _ _ _))
    · by_cases h9 : 8 < xs.length
      · clear hok
        have h9i : (8 : Int) < (xs.length : Int) := by omega
        have h1i : (1 : Int) ≤ (xs.length : Int) := by omega
        go_enter Try.func30, Try.ntmps30
        go_wp2_with fail
        refine bodyPost_ret (results_row1 rfl _ _ _ _ _ _ _ rfl (heap_at _ _ _ (by simp)) Try.underlying24 rfl (by kernel_rfl)) rfl (gives1_no _ _ (below2 _ _ _))
      · have HRB : Hid (rightB 1 xs.length xs = false) := by show _ = false; rw [rightB_row]; exact decide_eq_false hok
        have hn1 : 1 ≤ xs.length := by omega
        have hn8 : xs.length ≤ 8 := by omega
        have h1i : (1 : Int) ≤ (xs.length : Int) := by omega
        have h8i : (xs.length : Int) ≤ 8 := by omega
        clear hok
        go_enter Try.func30, Try.ntmps30
        go_upto_region 2 with fail
        obtain ⟨W0, hW0⟩ : ∃ W0, W0 = (w.alloc (.cells #[.slice ao xs.length cap] 22)).alloc (.cells #[.int .i64 0, .int .i64 0, .slice none 0 0] 24) := ⟨_, rfl⟩
        rw [← hW0]
        have q0 : W0.cell? ⟨w.heap.size, 0, none⟩ = some (.slice ao xs.length cap) := by rw [hW0]; simp [go_sem]
        have HQ : Hid (QS W0 (.slice ao xs.length cap) xs) := by rw [hW0]; exact H.out.later (below2 _ _ _)
        have HR : Hid (W0.heap[w.heap.size + 1]? = some (.cells #[.int .i64 0, .int .i64 0, .slice none 0 0] 24 (0, 0))) := by rw [hW0]; exact heap_at _ _ _ (by simp)
        have HBw : Hid (Below w.heap.size w W0) := by rw [hW0]; exact below2 _ _ _
        clear hW0
        go_upto_region 3 with (go_at_call 32; refine (right_any _ 1 xs.length _ xs HQ.out hl).mono ?_; rw [HRB.out]; rintro e w1 ⟨rfl, hb1⟩)
        have hR := block_later HR.out hb1
        have t0 := cell_of_row _ _ 0 _ _ _ hR
        have t1 := cell_of_row _ _ 1 _ _ _ hR
        have t2 := cell_of_row _ _ 2 _ _ _ hR
        simp only [List.getElem?_toArray, List.getElem?_cons_succ, List.getElem?_cons_zero] at t0 t1 t2
        have f0 := frozen_of_row _ _ 0 _ _ hR
        have f1 := frozen_of_row _ _ 1 _ _ hR
        have f2 := frozen_of_row _ _ 2 _ _ hR
        go_wp2_with fail
        refine bodyPost_ret (results_row1 rfl _ _ _ _ _ _ _ rfl (heap_store3 _ _ _ _ _ (.int .i64 0) (.int .i64 0) (.slice none 0 0) _ hR) Try.underlying24 rfl (by kernel_rfl)) rfl ?_
        exact gives1_no _ _ (below_set3 (below_trans2 HBw.out hb1) (by omega) _ _ _)

end Go.Proofs.Ytijohedhbbddjaa
