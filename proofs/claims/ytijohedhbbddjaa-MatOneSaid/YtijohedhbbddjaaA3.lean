/- The walks of layer 3 (mat): Trans, Mul. -/
import Derived.Test.YtijohedhbbddjaaA2
namespace Go.Proofs.Ytijohedhbbddjaa
open Go.RowKit

theorem enters_trans : Enters 92 := enters_of Try.func92 (by kernel_rfl) (by kernel_rfl)
theorem enters_mul : Enters 78 := enters_of Try.func78 (by kernel_rfl) (by kernel_rfl)

/-- 'at' of a matrix in a block, in any later world. -/
theorem at_later {w : World} {b r c : Nat} {v : Value} {xs : List Int} (h : InB w b r c v xs) (hr : r ≤ 8) (hc : c ≤ 8) {i k : Nat} (hi : i < r) (hk : k < c) :
    ∀ wy, Below w.heap.size w wy → Calls Try.prog 72 #[.agg #[.int .i64 r, .int .i64 c, v], .int .i64 i, .int .i64 k] wy fun e w' => e = .returned (.int .i64 (xs.getD (i * c + k) 0)) ∧ Below wy.heap.size wy w' :=
  fun wy hy => at_any r c i k v xs wy (h.qs.later hy) (by omega) hc (by omega) (by rw [h.len]; exact idx_lt hi hk) (by rw [h.len]; have := mat_len hr hc; omega)

set_option maxHeartbeats 400000 in
theorem trans_tells (w : World) (b1 r c : Nat) (v : Value) (xs : List Int) (hr : r ≤ 8) (hc : c ≤ 8) (hA : InB w b1 r c v xs) :
    Tells 92 #[.pointer (some ⟨b1, 0, none⟩)] w c r (fun i k => xs.getD (k * c + i) 0) (fun _ _ => false) := by
  intro i k wx hi hk hb
  have hB := hA.later hb
  clear hb hA
  have HAT := Lib.hid (at_later hB hr hc hk hi)
  obtain ⟨c0, c1, c2, qs, len⟩ := hB
  obtain ⟨ao, cap, hv, -⟩ := qs
  subst hv
  clear len
  go_enter Try.func92, Try.ntmps92
  go_wp2_with (go_at_call 72; refine (HAT.out _ (Below.refl _ _)).mono ?_; rintro e w1 ⟨rfl, hb1⟩)
  go_ret2
  exact ⟨rfl, by assumption⟩

set_option maxHeartbeats 400000 in
theorem trans_any (w : World) (r c : Nat) (v : Value) (xs : List Int) (h : MV w r c v xs) :
    Calls Try.prog 36 #[.agg #[.int .i64 r, .int .i64 c, v]] w fun e w' =>
      ∃ ao cap, e = .returned (.agg #[.int .i64 c, .int .i64 r, .slice ao (c * r) cap]) ∧
        w'.ownsRow w.heap.size 25 1 (.slice ao (c * r) cap) (c * r) ((tab (fun i k => xs.getD (k * c + i) 0) r (c * r)).map (Value.int .i64)) ∧ Below w.heap.size w w' := by
  obtain ⟨ao, cap, hv, -⟩ := id h.qs
  subst hv
  have H := Lib.hid h
  clear h
  go_enter Try.func36, Try.ntmps36
  go_wp2_with (first | (go_at_call 69; refine (made_any 92 _ _ c r _ _ H.out.hc H.out.hr enters_trans (trans_tells _ w.heap.size r c _ xs H.out.hr H.out.hc ((inB_new H.out _).later (below1 _ _)))).mono ?_; rintro e w2 ⟨ao', cap', rfl, hown, hb⟩; have hR := block_later (heap_at _ _ (w.heap.size + 1) (by simp)) hb; obtain ⟨hc, hf⟩ := bcell hb; have hz : w.heap.size + 1 < w2.heap.size := (by have := hb.size; simp at this; omega)))
  have h3 := heap_store3 _ _ _ _ _ (.int .i64 c) (.int .i64 r) (.slice ao' (c * r) cap') _ hR
  refine bodyPost_ret (results_row rfl _ _ _ _ _ _ _ rfl ((heap_old _ _ _ (by simpa using hz)).trans h3) Try.underlying24 rfl (by kernel_rfl)) rfl ⟨ao', cap', rfl, ?_, ?_⟩
  · exact ownsRow_base ((owns_set3 hown (by simp) _ _ _).alloc _) (by simp; omega)
  · exact (below_set3 (below_trans2 (below2 _ _ _) hb) (by omega) _ _ _).alloc (by simp; omega) _

def dotS (f g : Nat → Int) : Nat → Int × Bool
  | 0 => (0, false)
  | n + 1 => (addQ (dotS f g n).1 (mulQ (f n) (g n)), ((dotS f g n).2 || mulO (f n) (g n)) || addO (dotS f g n).1 (mulQ (f n) (g n)))

set_option maxHeartbeats 1000000 in
theorem mul_tells (w : World) (b1 b2 r m c : Nat) (v v' : Value) (xs ys : List Int) (hr : r ≤ 8) (hm : m ≤ 8) (hc : c ≤ 8) (hA : InB w b1 r m v xs) (hB : InB w b2 m c v' ys) :
    Tells 78 #[.pointer (some ⟨b1, 0, none⟩), .pointer (some ⟨b2, 0, none⟩)] w r c
      (fun i k => (dotS (fun j => xs.getD (i * m + j) 0) (fun j => ys.getD (j * c + k) 0) m).1) (fun i k => (dotS (fun j => xs.getD (i * m + j) 0) (fun j => ys.getD (j * c + k) 0) m).2) := by
  intro i k wx hi hk hb
  have hA := hA.later hb
  have hB := hB.later hb
  clear hb
  have HA := Lib.hid hA
  have HB := Lib.hid hB
  obtain ⟨a0, a1, a2, aqs, alen⟩ := hA
  obtain ⟨b0, b1', b2', bqs, blen⟩ := hB
  obtain ⟨ao, acap, hv, -⟩ := aqs
  obtain ⟨bo, bcap, hv', -⟩ := bqs
  subst hv
  subst hv'
  clear alen blen
  have r0 := cells_later a0
  have r1 := cells_later a1
  have r2 := cells_later a2
  have s0 := cells_later b0
  have s1 := cells_later b1'
  have s2 := cells_later b2'
  clear a0 a2 b0 b1' b2'
  obtain ⟨F, hF⟩ : ∃ F : Nat → Int, F = fun j => xs.getD (i * m + j) 0 := ⟨_, rfl⟩
  obtain ⟨G, hG⟩ : ∃ G : Nat → Int, G = fun j => ys.getD (j * c + k) 0 := ⟨_, rfl⟩
  dsimp only
  rw [← hF, ← hG]
  have HF : Hid (∀ j, xs.getD (i * m + j) 0 = F j) := by subst hF; exact fun _ => rfl
  have HG : Hid (∀ j, ys.getD (j * c + k) 0 = G j) := by subst hG; exact fun _ => rfl
  clear hF hG
  go_enter Try.func78, Try.ntmps78
  go_wp2_with fail
  go_loopg [8, 9, 17] m (fun n sv ov jv wr => ∃ j : Nat, j ≤ m ∧ n = m - j ∧ jv = .int .i64 j ∧ sv = .int .i64 (dotS F G j).1 ∧ ov = .bool (dotS F G j).2 ∧ Below wx.heap.size wx wr)
  case atStart => exact ⟨0, by omega, by omega, rfl, rfl, rfl, Below.refl _ _⟩
  case round =>
    obtain ⟨j, hj, rfl, rfl, rfl, rfl, hbr⟩ := hrel
    by_cases hjm : j < m
    · have HAT := Lib.hid (at_later HA.out hr hm hi hjm)
      have HBT := Lib.hid (at_later HB.out hm hc hjm hk)
      go_wp2_with fail
      go_region_held3 (fun w' => Below wx.heap.size wx w')
        (first | exact hbr.drew | exact below_tr (by assumption) (by assumption) | exact below_tr2 (by assumption) (by assumption))
        (first | (go_at_call_of 72 (Value.int .i64 i); refine (HAT.out _ (by assumption)).mono ?_; rw [HF.out]; rintro e w1 ⟨rfl, hb1⟩) | (go_at_call_of 72 (Value.int .i64 k); refine (HBT.out _ (by assumption)).mono ?_; rw [HG.out]; rintro e w1 ⟨rfl, hb1⟩) | (go_at_call 25; refine (mul_any _ _ _).mono ?_; rintro e w2 ⟨rfl, hb2⟩))
      go_wp2_with (go_at_call 24; refine (add_any _ _ _).mono ?_; rintro e w' ⟨rfl, rfl⟩)
      all_goals
        go_roundg (m - (j + 1))
        case measure => omega
        case rel => exact ⟨j + 1, by omega, rfl, by go_num, rfl, by simp [dotS, *], by assumption⟩
    · have hjm' : j = m := by omega
      subst hjm'
      go_wp2_with fail
      go_ret2
      exact ⟨rfl, hbr⟩

end Go.Proofs.Ytijohedhbbddjaa
