/- The walks of layer 3 (mat): at, of, and what the closures tell. -/
import Derived.Test.YtijohedhbbddjaaA1
import Derived.Test.YtijohedhbbddjaaW1
namespace Go.Proofs.Ytijohedhbbddjaa
open Go.RowKit

theorem idx_lt {i k r c : Nat} (hi : i < r) (hk : k < c) : i * c + k < r * c := by
  have := Nat.mul_le_mul_right c (show i + 1 ≤ r by omega)
  rw [Nat.add_mul] at this; omega

set_option maxHeartbeats 400000 in
theorem at_any (r c i k : Nat) (v : Value) (xs : List Int) (w : World) (h : QS w v xs) (hr : i ≤ 8) (hc : c ≤ 8) (hk : k ≤ 8) (hx : i * c + k < xs.length) (hm : xs.length ≤ 1000) :
    Calls Try.prog 72 #[.agg #[.int .i64 r, .int .i64 c, v], .int .i64 i, .int .i64 k] w fun e w' => e = .returned (.int .i64 (xs.getD (i * c + k) 0)) ∧ Below w.heap.size w w' := by
  obtain ⟨b, off, cap, rfl, hcell⟩ := h.cell hx
  have hic : i * c ≤ 64 := Nat.mul_le_mul hr hc
  have hcell' := cell_later (below1 w (.cells #[.int .i64 r, .int .i64 c, .slice (some ⟨b, off, none⟩) xs.length cap] 24)) hcell
  have e1 : xs.getD (i * c + k) 0 = xs[i * c + k] := by simp [hx]
  rw [e1]
  obtain ⟨q, hq⟩ : ∃ q, i * c = q := ⟨_, rfl⟩
  have e2 : ((i : Int) * (c : Int)) = (q : Int) := by rw [← hq]; simp
  obtain ⟨x, hxx⟩ : ∃ x, xs[i * c + k] = x := ⟨_, rfl⟩
  rw [hxx] at hcell' ⊢
  rw [hq] at hcell' hic hx
  clear hcell e1 h hxx hq
  have hx' : (q : Int) + (k : Int) < (xs.length : Int) := by omega
  go_enter Try.func72, Try.ntmps72
  go_wp2
  go_ret
  exact ⟨rfl, below1 _ _⟩

theorem of_any (r c : Int) (v : Value) (w : World) :
    Calls Try.prog 70 #[.agg #[.int .i64 r, .int .i64 c, v]] w fun e w' => e = .returned (.agg #[.int .i64 r, .int .i64 c]) ∧ Below w.heap.size w w' := by
  go_enter Try.func70, Try.ntmps70
  go_wp2
  have g := heap_alloc_new (w.alloc (.cells #[.int .i64 r, .int .i64 c, v] 24)) (.cells #[.int .i64 r, .int .i64 c] 92)
  simp only [World.size_alloc] at g
  exact bodyPost_ret (results_row rfl _ _ _ _ _ _ _ rfl g Try.underlying92 rfl (by kernel_rfl)) rfl ⟨rfl, (below1 _ _).alloc (by simp) _⟩

theorem enters_scale : Enters 71 := enters_of Try.func71 (by kernel_rfl) (by kernel_rfl)

/-- A matrix in a block of its own. -/
structure InB (w : World) (b : Nat) (r c : Nat) (v : Value) (xs : List Int) : Prop where
  c0 : w.cell? ⟨b, 0, none⟩ = some (.int .i64 r)
  c1 : w.cell? ⟨b, 1, none⟩ = some (.int .i64 c)
  c2 : w.cell? ⟨b, 2, none⟩ = some v
  qs : QS w v xs
  len : xs.length = r * c
theorem InB.later {w w' : World} {b r c : Nat} {v : Value} {xs : List Int} (h : InB w b r c v xs) (hb : Below w.heap.size w w') : InB w' b r c v xs :=
  ⟨cell_later hb h.c0, cell_later hb h.c1, cell_later hb h.c2, h.qs.later hb, h.len⟩

set_option maxHeartbeats 400000 in
theorem scale_tells (w : World) (b1 b2 r c : Nat) (v : Value) (xs : List Int) (q : Int) (hr : r ≤ 8) (hc : c ≤ 8) (hA : InB w b1 r c v xs) (hq : w.cell? ⟨b2, 0, none⟩ = some (.int .i64 q)) :
    Tells 71 #[.pointer (some ⟨b1, 0, none⟩), .pointer (some ⟨b2, 0, none⟩)] w r c (fun i k => mulQ (xs.getD (i * c + k) 0) q) (fun i k => mulO (xs.getD (i * c + k) 0) q) := by
  intro i k wx hi hk hb
  have hB := hA.later hb
  have hq := cell_later hb hq
  clear hb hA
  obtain ⟨c0, c1, c2, qs, len⟩ := hB
  have hat : ∀ wy, Below wx.heap.size wx wy → Calls Try.prog 72 #[.agg #[.int .i64 r, .int .i64 c, v], .int .i64 i, .int .i64 k] wy fun e w' => e = .returned (.int .i64 (xs.getD (i * c + k) 0)) ∧ Below wy.heap.size wy w' := fun wy hy =>
    at_any r c i k v xs wy (qs.later hy) (by omega) hc (by omega) (by rw [len]; exact idx_lt hi hk) (by rw [len]; have := Nat.mul_le_mul hr hc; omega)
  have HAT := Lib.hid hat
  obtain ⟨ao, cap, hv, -⟩ := qs
  subst hv
  clear hat len
  have r0 := cells_later c0
  have r1 := cells_later c1
  have r2 := cells_later c2
  have r3 := cells_later hq
  clear c0 c1 c2 hq
  go_enter Try.func71, Try.ntmps71
  go_wp2_with fail
  go_region_held3 (fun w' => Below wx.heap.size wx w')
    (first | exact below_drew _ | exact below_tr (by assumption) (by assumption) | exact below_tr2 (by assumption) (by assumption))
    (first | (go_at_call 72; refine (HAT.out _ (by assumption)).mono ?_; rintro e w1 ⟨rfl, hb1⟩) | (go_at_call 25; refine (mul_any _ _ _).mono ?_; rintro e w2 ⟨rfl, hb2⟩))
  go_wp2
  go_ret2
  exact ⟨rfl, by assumption⟩

theorem mat_len {r c : Nat} (hr : r ≤ 8) (hc : c ≤ 8) : r * c ≤ 64 := Nat.mul_le_mul hr hc

/-- A matrix by value, as it reads. -/
structure MV (w : World) (r c : Nat) (v : Value) (xs : List Int) : Prop where
  qs : QS w v xs
  len : xs.length = r * c
  hr : r ≤ 8
  hc : c ≤ 8
theorem MV.later {w w' : World} {r c : Nat} {v : Value} {xs : List Int} (h : MV w r c v xs) (hb : Below w.heap.size w w') : MV w' r c v xs := ⟨h.qs.later hb, h.len, h.hr, h.hc⟩

theorem inB_new {w : World} {r c : Nat} {v : Value} {xs : List Int} (h : MV w r c v xs) (t : TypeId) : InB (w.alloc (.cells #[.int .i64 r, .int .i64 c, v] t)) w.heap.size r c v xs :=
  ⟨by simp, by simp, by simp, h.qs.later (below1 _ _), h.len⟩

set_option maxHeartbeats 400000 in
theorem scale_any (w : World) (r c : Nat) (v : Value) (xs : List Int) (q : Int) (h : MV w r c v xs) :
    Calls Try.prog 13 #[.agg #[.int .i64 r, .int .i64 c, v], .int .i64 q] w fun e w' =>
      ∃ ao cap, e = .returned (.tuple #[.agg #[.int .i64 r, .int .i64 c, .slice ao (r * c) cap], .bool (tabO (fun i k => mulO (xs.getD (i * c + k) 0) q) c (r * c))]) ∧
        w'.ownsRow w.heap.size 25 1 (.slice ao (r * c) cap) (r * c) ((tab (fun i k => mulQ (xs.getD (i * c + k) 0) q) c (r * c)).map (Value.int .i64)) ∧ Below w.heap.size w w' := by
  obtain ⟨ao, cap, hv, -⟩ := id h.qs
  subst hv
  have H := Lib.hid h
  clear h
  go_enter Try.func13, Try.ntmps13
  go_wp2_with (first | (go_at_call 70; refine (of_any _ _ _ _).mono ?_; rintro e w1 ⟨rfl, hb1⟩) | (go_at_call 69; refine (made_any 71 _ _ r c _ _ H.out.hr H.out.hc enters_scale (scale_tells _ w.heap.size (w.heap.size + 1) r c _ xs q H.out.hr H.out.hc ((inB_new H.out _).later (below_tr2 hb1 (below2 _ _ _))) (cell_later hb1 (by simp [go_sem])))).mono ?_; rintro e w2 ⟨ao', cap', rfl, hown, hb2⟩; have hb := below_trans2 hb1 hb2; have hR := block_later (heap_at _ _ (w.heap.size + 1 + 1) (by simp)) hb; obtain ⟨hc, hf⟩ := bcell hb))
  refine bodyPost_ret (results_row1 rfl _ _ _ _ _ _ _ rfl (heap_store3 _ _ _ _ _ _ _ _ _ hR) Try.underlying24 rfl (by kernel_rfl)) rfl ⟨ao', cap', rfl, ?_, ?_⟩
  · exact ownsRow_base (owns_set3 hown (by have := hb1.size; simp at this; omega) _ _ _) (by have := hb1.size; simp at this; omega)
  · exact below_set3 (below_trans2 (below3 _ _ _ _) hb) (by omega) _ _ _

end Go.Proofs.Ytijohedhbbddjaa
