/- Texts of this claim, part 29: contracts of the functions that the law reaches. -/
import Derived.Test.YtijohedhbbddjaaZ27
namespace Go.Proofs.Ytijohedhbbddjaa
open Go.RowKit

theorem qs_of_row {w : World} {g : Nat} (xs : List Int) (cap : Nat) (hc : xs.length ≤ cap) (h : w.heap[g]? = some (.cells (xs.map (Value.int .i64)).toArray 25 (0, 0))) : QS w (.slice (some ⟨g, 0, none⟩) xs.length cap) xs := by
  refine ⟨_, cap, rfl, hc, fun i x hi => ⟨g, 0, rfl, ?_⟩⟩
  rw [cell_of_row _ _ _ _ _ _ h, Nat.zero_add]
  simp [hi]
theorem ex5D : diagR [16777216] = ⟨1, 1, [16777216], false, 0⟩ := by kernel_rfl
theorem ex5T : trackB 1 1 [0] 1 1 [16777216] = true := by decide +kernel
theorem ex5Y : inY [16777216] [0] 33554432 1 = 33554432 := by decide +kernel
theorem ex5S : inS [16777216] [16777216] 16777216 1 = 33554432 := by decide +kernel
theorem ex5G : gateB 33554432 33554432 1677721600 = false := by decide +kernel
theorem ex5K : tkK [16777216] [16777216] 33554432 1 = [8388608] := by decide +kernel
theorem ex5X : tkX [8388608] [0] 33554432 1 = [16777216] := by decide +kernel
theorem ex5P : tkP [8388608] [16777216] [16777216] 16777216 1 = [8388608] := by decide +kernel
theorem ex5O : ((updO [16777216] [0] [16777216] 33554432 16777216 1677721600 1 || tkO0 [16777216] [16777216] 33554432 1) || tkO1 [8388608] [0] [16777216] [16777216] 33554432 16777216 1) = false := by decide +kernel

set_option maxRecDepth 100000 in
set_option maxHeartbeats 1000000 in
theorem shown5_any (w : World) : Calls Try.prog 59 #[] w fun e w' => e = .returned (.bool true) ∧ Below w.heap.size w w' := by
  have hN : ∀ (w : World) vx vv, QS w vx [0] → QS w vv [16777216] → Calls Try.prog 102 #[vx, vv] w (GivesN [0] ⟨1, 1, [16777216], false, 0⟩ w) := fun w vx vv h h' =>
    knew_ok w vx vv [0] [16777216] h h' (by decide) (by decide) 1 1 [16777216] ⟨false, ex5D⟩ ex5T
  have hU : ∀ (w : World) vx vp vh, TMV w 1 vx vp [0] [16777216] → MV w 1 1 vh [16777216] →
      Calls Try.prog 63 #[.agg #[.int .i64 1, .int .i64 1, vx, .int .i64 1, .int .i64 1, vp], .agg #[.int .i64 1, .int .i64 1, vh], .int .i64 33554432, .int .i64 16777216, .int .i64 1677721600] w (GivesU 1 1 [16777216] 1 1 [8388608] true false 0 w) := fun w vx vp vh h h' => by
    have hu := update_take w 1 vx vp vh [0] [16777216] [16777216] 33554432 16777216 1677721600 (by decide) (by decide) h h' (by rw [ex5Y, ex5S]; exact ex5G)
    rw [ex5Y, ex5S, ex5K, ex5X, ex5P, ex5O] at hu
    exact hu
  have HN := Lib.hid hN
  have HU := Lib.hid hU
  clear hN hU
  obtain ⟨s, hsz⟩ : ∃ s, w.heap.size = s := ⟨_, rfl⟩
  go_enter Try.func59, Try.ntmps59
  obtain ⟨W, hW⟩ : ∃ W, W = (w.alloc (.cells #[.int .i64 0] 25)).alloc (.cells #[.int .i64 16777216] 25) := ⟨_, rfl⟩
  have HB : Hid (Below w.heap.size w W) := by rw [hW]; exact below2 _ _ _
  have H0 : Hid (QS W (.slice (some ⟨s, 0, none⟩) 1 1) [0]) := qs_of_row [0] 1 (by decide) (by rw [hW, heap_old _ _ _ (by simp; omega)]; exact heap_at _ _ _ hsz.symm)
  have H1 : Hid (QS W (.slice (some ⟨s + 1, 0, none⟩) 1 1) [16777216]) := qs_of_row [16777216] 1 (by decide) (by rw [hW]; exact heap_at _ _ _ (by simp; omega))
  go_upto_region 2 with (first | (rw [← hW]; go_at_call 102; (refine (HN.out _ _ _ H0.out H1.out).mono ?_); rintro e w1 ⟨ax, cx, ap, cp, rfl, hox, hop, hd1⟩))
  clear hW
  obtain ⟨g1, hg1⟩ : ∃ g, g = w1.heap.size := ⟨_, rfl⟩
  obtain ⟨V, hV⟩ : ∃ V, V = ((w1.alloc (rowT 1 1 ax 1 cx 1 1 ap 1 cp)).alloc (.cells #[.int .i64 16777216] 25)).alloc (rowM 1 1 (some ⟨g1 + 1, 0, none⟩) 1 1) := ⟨_, rfl⟩
  have HB1 : Hid (Below w.heap.size w V) := by rw [hV]; exact below_trans2 (below_trans2 HB.out hd1) (below3 _ _ _ _)
  have b1 : V.heap[g1]? = some (rowT 1 1 ax 1 cx 1 1 ap 1 cp) := by rw [hV, heap_old _ _ _ (by simp; omega), heap_old _ _ _ (by simp; omega)]; exact heap_at _ _ _ hg1
  have b2 : V.heap[g1 + 1]? = some (.cells #[.int .i64 16777216] 25 (0, 0)) := by rw [hV, heap_old _ _ _ (by simp; omega)]; exact heap_at _ _ _ (by simp; omega)
  have b3 : V.heap[g1 + 1 + 1]? = some (rowM 1 1 (some ⟨g1 + 1, 0, none⟩) 1 1) := by rw [hV]; exact heap_at _ _ _ (by simp; omega)
  have HT : Hid (TMV V 1 (.slice ax 1 cx) (.slice ap 1 cp) [0] [16777216]) := by
    rw [hV]
    exact ⟨⟨(hox.later (below3 _ _ _ _)).qs, rfl, by decide, by decide⟩, ⟨(hop.later (below3 _ _ _ _)).qs, rfl, by decide, by decide⟩⟩
  have HH : Hid (MV V 1 1 (.slice (some ⟨g1 + 1, 0, none⟩) 1 1) [16777216]) := ⟨qs_of_row [16777216] 1 (by decide) b2, rfl, by decide, by decide⟩
  clear hox hop hd1 b2
  have c1 := rowT_cell b1
  have c3 := rowM_cell b3
  clear b1 b3
  go_upto_region 3 with fail
  rw [← hg1]
  unfold rowT rowM at hV
  rw [← hV]
  clear hV hg1
  go_upto_region 6 with (go_at_call 63; (refine (HU.out _ _ _ _ HT.out HH.out).mono ?_); rintro e w2 ⟨bx, dx, bp, dp, rfl, hqx, hqp, hd2⟩)
  obtain ⟨b, off, rfl, hcx⟩ := qs_cell (xs := [16777216]) hqx (k := 0) (by decide)
  obtain ⟨b', off', rfl, hcp⟩ := qs_cell (xs := [8388608]) hqp (k := 0) (by decide)
  simp only [List.getElem_cons_zero, Nat.add_zero] at hcx hcp
  have hcx' := cell_later (below1 w2 (rowT 1 1 (some ⟨b, off, none⟩) 1 dx 1 1 (some ⟨b', off', none⟩) 1 dp)) hcx
  have hcp' := cell_later (below1 w2 (rowT 1 1 (some ⟨b, off, none⟩) 1 dx 1 1 (some ⟨b', off', none⟩) 1 dp)) hcp
  have HB2 := Lib.hid (below_trans2 HB1.out hd2)
  obtain ⟨g2, hg2⟩ : ∃ g, g = w2.heap.size := ⟨_, rfl⟩
  obtain ⟨V2, hV2⟩ : ∃ V, V = w2.alloc (rowT 1 1 (some ⟨b, off, none⟩) 1 dx 1 1 (some ⟨b', off', none⟩) 1 dp) := ⟨_, rfl⟩
  have b4 : V2.heap[g2]? = some (rowT 1 1 (some ⟨b, off, none⟩) 1 dx 1 1 (some ⟨b', off', none⟩) 1 dp) := by rw [hV2]; exact heap_at _ _ _ hg2
  have HB3 : Hid (Below w.heap.size w V2) := by rw [hV2]; exact below_trans2 HB2.out (below1 _ _)
  rw [← hV2] at hcx' hcp'
  rw [← hg2]
  unfold rowT at hV2
  rw [← hV2]
  clear hV2 hg2 hcx hcp hqx hqp hd2 c1 c3
  have c4 := rowT_cell b4
  go_wp2_with fail
  go_ret
  exact ⟨rfl, by first | exact HB3.out | (rw [← hsz]; exact HB3.out)⟩

end Go.Proofs.Ytijohedhbbddjaa
