/- Texts of this claim, part 11: contracts of the functions that the law reaches. -/
import Derived.Test.YtijohedhbbddjaaZ9
import Derived.Test.YtijohedhbbddjaaZ0
namespace Go.Proofs.Ytijohedhbbddjaa
open Go.RowKit

theorem idx_lt {i k r c : Nat} (hi : i < r) (hk : k < c) : i * c + k < r * c := by
  have := Nat.mul_le_mul_right c (show i + 1 ≤ r by omega)
  rw [Nat.add_mul] at this; omega

set_option maxHeartbeats 400000 in
theorem at_any (r c i k : Nat) (v : Value) (xs : List Int) (w : World) (h : QS w v xs) (hr : i ≤ 8) (hc : c ≤ 8) (hk : k ≤ 8) (hx : i * c + k < xs.length) (hm : xs.length ≤ 1000) :
    Calls Try.prog 72 #[.agg #[.int .i64 r, .int .i64 c, v], .int .i64 i, .int .i64 k] w fun e w' => e = .returned (.int .i64 (xs.getD (i * c + k) 0)) ∧ Below w.heap.size w w' := by
  obtain ⟨b, off, cap, rfl, hcell⟩ := h.cell hx
  have hic : i * c ≤ 64 := Nat.mul_le_mul hr hc
  have hcell' := cell_later (below1 w (.cells #[.int .i64 r, .int .i64 c, .slice (some ⟨b, off, none⟩) xs.length cap] 24)) hcell
  have e1 : xs.getD (i * c + k) 0 = xs[i * c + k] := by simp [hx]
  rw [e1]
  obtain ⟨q, hq⟩ : ∃ q, i * c = q := ⟨_, rfl⟩
  have e2 : ((i : Int) * (c : Int)) = (q : Int) := by rw [← hq]; simp
  obtain ⟨x, hxx⟩ : ∃ x, xs[i * c + k] = x := ⟨_, rfl⟩
  rw [hxx] at hcell' ⊢
  rw [hq] at hcell' hic hx
  clear hcell e1 h hxx hq
  have hx' : (q : Int) + (k : Int) < (xs.length : Int) := by omega
  go_enter Try.func72, Try.ntmps72
  go_wp2
  go_ret
  exact ⟨rfl, below1 _ _⟩

theorem of_any (r c : Int) (v : Value) (w : World) :
    Calls Try.prog 70 #[.agg #[.int .i64 r, .int .i64 c, v]] w fun e w' => e = .returned (.agg #[.int .i64 r, .int .i64 c]) ∧ Below w.heap.size w w' := by
  go_enter Try.func70, Try.ntmps70
  go_wp2
  have g := heap_alloc_new (w.alloc (.cells #[.int .i64 r, .int .i64 c, v] 24)) (.cells #[.int .i64 r, .int .i64 c] 92)
  simp only [World.size_alloc] at g
  exact bodyPost_ret (results_row rfl _ _ _ _ _ _ _ rfl g Try.underlying92 rfl (by kernel_rfl)) rfl ⟨rfl, (below1 _ _).alloc (by simp) _⟩

theorem enters_scale : Enters 71 := enters_of Try.func71 (by kernel_rfl) (by kernel_rfl)

/-- A matrix in a block of its own. -/
structure InB (w : World) (b : Nat) (r c : Nat) (v : Value) (xs : List Int) : Prop where
  c0 : w.cell? ⟨b, 0, none⟩ = some (.int .i64 r)
  c1 : w.cell? ⟨b, 1, none⟩ = some (.int .i64 c)
  c2 : w.cell? ⟨b, 2, none⟩ = some v
  qs : QS w v xs
  len : xs.length = r * c
theorem InB.later {w w' : World} {b r c : Nat} {v : Value} {xs : List Int} (h : InB w b r c v xs) (hb : Below w.heap.size w w') : InB w' b r c v xs :=
  ⟨cell_later hb h.c0, cell_later hb h.c1, cell_later hb h.c2, h.qs.later hb, h.len⟩

set_option maxHeartbeats 400000 in
theorem scale_tells (w : World) (b1 b2 r c : Nat) (v : Value) (xs : List Int) (q : Int) (hr : r ≤ 8) (hc : c ≤ 8) (hA : InB w b1 r c v xs) (hq : w.cell? ⟨b2, 0, none⟩ = some (.int .i64 q)) :
    Tells 71 #[.pointer (some ⟨b1, 0, none⟩), .pointer (some ⟨b2, 0, none⟩)] w r c (fun i k => mulQ (xs.getD (i * c + k) 0) q) (fun i k => mulO (xs.getD (i * c + k) 0) q) := by
  intro i k wx hi hk hb
  have hB := hA.later hb
  have hq := cell_later hb hq
  clear hb hA
  obtain ⟨c0, c1, c2, qs, len⟩ := hB
  have hat : ∀ wy, Below wx.heap.size wx wy → Calls Try.prog 72 #[.agg #[.int .i64 r, .int .i64 c, v], .int .i64 i, .int .i64 k] wy fun e w' => e = .returned (.int .i64 (xs.getD (i * c + k) 0)) ∧ Below wy.heap.size wy w' := fun wy hy =>
    at_any r c i k v xs wy (qs.later hy) (by omega) hc (by omega) (by rw [len]; exact idx_lt hi hk) (by rw [len]; have := Nat.mul_le_mul hr hc; omega)
  have HAT := Lib.hid hat
  obtain ⟨ao, cap, hv, -⟩ := qs
  subst hv
  clear hat len
  have r0 := cells_later c0
  have r1 := cells_later c1
  have r2 := cells_later c2
  have r3 := cells_later hq
  clear c0 c1 c2 hq
  go_enter Try.func71, Try.ntmps71
  go_wp2_with fail
  go_region_held3 (fun w' => Below wx.heap.size wx w')
    (first | exact below_drew _ | exact below_tr (by assumption) (by assumption) | exact below_tr2 (by assumption) (by assumption))
    (first | (go_at_call 72; refine (HAT.out _ (by assumption)).mono ?_; rintro e w1 ⟨rfl, hb1⟩) | (go_at_call 25; refine (mul_any _ _ _).mono ?_; rintro e w2 ⟨rfl, hb2⟩))
  go_wp2
  go_ret2
  exact ⟨rfl, by assumption⟩

theorem mat_len {r c : Nat} (hr : r ≤ 8) (hc : c ≤ 8) : r * c ≤ 64 := Nat.mul_le_mul hr hc

/-- A matrix by value, as it reads. -/
structure MV (w : World) (r c : Nat) (v : Value) (xs : List Int) : Prop where
  qs : QS w v xs
  len : xs.length = r * c
  hr : r ≤ 8
  hc : c ≤ 8
theorem MV.later {w w' : World} {r c : Nat} {v : Value} {xs : List Int} (h : MV w r c v xs) (hb : Below w.heap.size w w') : MV w' r c v xs := ⟨h.qs.later hb, h.len, h.hr, h.hc⟩

theorem inB_new {w : World} {r c : Nat} {v : Value} {xs : List Int} (h : MV w r c v xs) (t : TypeId) : InB (w.alloc (.cells #[.int .i64 r, .int .i64 c, v] t)) w.heap.size r c v xs :=
  ⟨by simp, by simp, by simp, h.qs.later (below1 _ _), h.len⟩

set_option maxHeartbeats 400000 in
theorem scale_any (w : World) (r c : Nat) (v : Value) (xs : List Int) (q : Int) (h : MV w r c v xs) :
    Calls Try.prog 13 #[.agg #[.int .i64 r, .int .i64 c, v], .int .i64 q] w fun e w' =>
      ∃ ao cap, e = .returned (.tuple #[.agg #[.int .i64 r, .int .i64 c, .slice ao (r * c) cap], .bool (tabO (fun i k => mulO (xs.getD (i * c + k) 0) q) c (r * c))]) ∧
        w'.ownsRow w.heap.size 25 1 (.slice ao (r * c) cap) (r * c) ((tab (fun i k => mulQ (xs.getD (i * c + k) 0) q) c (r * c)).map (Value.int .i64)) ∧ Below w.heap.size w w' := by
  obtain ⟨ao, cap, hv, -⟩ := id h.qs
  subst hv
  have H := Lib.hid h
  clear h
  go_enter Try.func13, Try.ntmps13
  go_wp2_with (first | (go_at_call 70; refine (of_any _ _ _ _).mono ?_; rintro e w1 ⟨rfl, hb1⟩) | (go_at_call 69; refine (made_any 71 _ _ r c _ _ H.out.hr H.out.hc enters_scale (scale_tells _ w.heap.size (w.heap.size + 1) r c _ xs q H.out.hr H.out.hc ((inB_new H.out _).later (below_tr2 hb1 (below2 _ _ _))) (cell_later hb1 (by simp [go_sem])))).mono ?_; rintro e w2 ⟨ao', cap', rfl, hown, hb2⟩; have hb := below_trans2 hb1 hb2; have hR := block_later (heap_at _ _ (w.heap.size + 1 + 1) (by simp)) hb; obtain ⟨hc, hf⟩ := bcell hb))
  refine bodyPost_ret (results_row1 rfl _ _ _ _ _ _ _ rfl (heap_store3 _ _ _ _ _ _ _ _ _ hR) Try.underlying24 rfl (by kernel_rfl)) rfl ⟨ao', cap', rfl, ?_, ?_⟩
  · exact ownsRow_base (owns_set3 hown (by have := hb1.size; simp at this; omega) _ _ _) (by have := hb1.size; simp at this; omega)
  · exact below_set3 (below_trans2 (below3 _ _ _ _) hb) (by omega) _ _ _

end Go.Proofs.Ytijohedhbbddjaa

namespace Go.Proofs.Ytijohedhbbddjaa
open Go.RowKit

theorem enters_trans : Enters 92 := enters_of Try.func92 (by kernel_rfl) (by kernel_rfl)
theorem enters_mul : Enters 78 := enters_of Try.func78 (by kernel_rfl) (by kernel_rfl)

/-- 'at' of a matrix in a block, in any later world. -/
theorem at_later {w : World} {b r c : Nat} {v : Value} {xs : List Int} (h : InB w b r c v xs) (hr : r ≤ 8) (hc : c ≤ 8) {i k : Nat} (hi : i < r) (hk : k < c) :
    ∀ wy, Below w.heap.size w wy → Calls Try.prog 72 #[.agg #[.int .i64 r, .int .i64 c, v], .int .i64 i, .int .i64 k] wy fun e w' => e = .returned (.int .i64 (xs.getD (i * c + k) 0)) ∧ Below wy.heap.size wy w' :=
  fun wy hy => at_any r c i k v xs wy (h.qs.later hy) (by omega) hc (by omega) (by rw [h.len]; exact idx_lt hi hk) (by rw [h.len]; have := mat_len hr hc; omega)

set_option maxHeartbeats 400000 in
theorem trans_tells (w : World) (b1 r c : Nat) (v : Value) (xs : List Int) (hr : r ≤ 8) (hc : c ≤ 8) (hA : InB w b1 r c v xs) :
    Tells 92 #[.pointer (some ⟨b1, 0, none⟩)] w c r (fun i k => xs.getD (k * c + i) 0) (fun _ _ => false) := by
  intro i k wx hi hk hb
  have hB := hA.later hb
  clear hb hA
  have HAT := Lib.hid (at_later hB hr hc hk hi)
  obtain ⟨c0, c1, c2, qs, len⟩ := hB
  obtain ⟨ao, cap, hv, -⟩ := qs
  subst hv
  clear len
  go_enter Try.func92, Try.ntmps92
  go_wp2_with (go_at_call 72; refine (HAT.out _ (Below.refl _ _)).mono ?_; rintro e w1 ⟨rfl, hb1⟩)
  go_ret2
  exact ⟨rfl, by assumption⟩

set_option maxHeartbeats 400000 in
theorem trans_any (w : World) (r c : Nat) (v : Value) (xs : List Int) (h : MV w r c v xs) :
    Calls Try.prog 36 #[.agg #[.int .i64 r, .int .i64 c, v]] w fun e w' =>
      ∃ ao cap, e = .returned (.agg #[.int .i64 c, .int .i64 r, .slice ao (c * r) cap]) ∧
        w'.ownsRow w.heap.size 25 1 (.slice ao (c * r) cap) (c * r) ((tab (fun i k => xs.getD (k * c + i) 0) r (c * r)).map (Value.int .i64)) ∧ Below w.heap.size w w' := by
  obtain ⟨ao, cap, hv, -⟩ := id h.qs
  subst hv
  have H := Lib.hid h
  clear h
  go_enter Try.func36, Try.ntmps36
  go_wp2_with (first | (go_at_call 69; refine (made_any 92 _ _ c r _ _ H.out.hc H.out.hr enters_trans (trans_tells _ w.heap.size r c _ xs H.out.hr H.out.hc ((inB_new H.out _).later (below1 _ _)))).mono ?_; rintro e w2 ⟨ao', cap', rfl, hown, hb⟩; have hR := block_later (heap_at _ _ (w.heap.size + 1) (by simp)) hb; obtain ⟨hc, hf⟩ := bcell hb; have hz : w.heap.size + 1 < w2.heap.size := (by have := hb.size; simp at this; omega)))
  have h3 := heap_store3 _ _ _ _ _ (.int .i64 c) (.int .i64 r) (.slice ao' (c * r) cap') _ hR
  refine bodyPost_ret (results_row rfl _ _ _ _ _ _ _ rfl ((heap_old _ _ _ (by simpa using hz)).trans h3) Try.underlying24 rfl (by kernel_rfl)) rfl ⟨ao', cap', rfl, ?_, ?_⟩
  · exact ownsRow_base ((owns_set3 hown (by simp) _ _ _).alloc _) (by simp; omega)
  · exact (below_set3 (below_trans2 (below2 _ _ _) hb) (by omega) _ _ _).alloc (by simp; omega) _

def dotS (f g : Nat → Int) : Nat → Int × Bool
  | 0 => (0, false)
  | n + 1 => (addQ (dotS f g n).1 (mulQ (f n) (g n)), ((dotS f g n).2 || mulO (f n) (g n)) || addO (dotS f g n).1 (mulQ (f n) (g n)))

set_option maxHeartbeats 1000000 in
theorem mul_tells (w : World) (b1 b2 r m c : Nat) (v v' : Value) (xs ys : List Int) (hr : r ≤ 8) (hm : m ≤ 8) (hc : c ≤ 8) (hA : InB w b1 r m v xs) (hB : InB w b2 m c v' ys) :
    Tells 78 #[.pointer (some ⟨b1, 0, none⟩), .pointer (some ⟨b2, 0, none⟩)] w r c
      (fun i k => (dotS (fun j => xs.getD (i * m + j) 0) (fun j => ys.getD (j * c + k) 0) m).1) (fun i k => (dotS (fun j => xs.getD (i * m + j) 0) (fun j => ys.getD (j * c + k) 0) m).2) := by
  intro i k wx hi hk hb
  have hA := hA.later hb
  have hB := hB.later hb
  clear hb
  have HA := Lib.hid hA
  have HB := Lib.hid hB
  obtain ⟨a0, a1, a2, aqs, alen⟩ := hA
  obtain ⟨b0, b1', b2', bqs, blen⟩ := hB
  obtain ⟨ao, acap, hv, -⟩ := aqs
  obtain ⟨bo, bcap, hv', -⟩ := bqs
  subst hv
  subst hv'
  clear alen blen
  have r0 := cells_later a0
  have r1 := cells_later a1
  have r2 := cells_later a2
  have s0 := cells_later b0
  have s1 := cells_later b1'
  have s2 := cells_later b2'
  clear a0 a2 b0 b1' b2'
  obtain ⟨F, hF⟩ : ∃ F : Nat → Int, F = fun j => xs.getD (i * m + j) 0 := ⟨_, rfl⟩
  obtain ⟨G, hG⟩ : ∃ G : Nat → Int, G = fun j => ys.getD (j * c + k) 0 := ⟨_, rfl⟩
  dsimp only
  rw [← hF, ← hG]
  have HF : Hid (∀ j, xs.getD (i * m + j) 0 = F j) := by subst hF; exact fun _ => rfl
  have HG : Hid (∀ j, ys.getD (j * c + k) 0 = G j) := by subst hG; exact fun _ => rfl
  clear hF hG
  go_enter Try.func78, Try.ntmps78
  go_wp2_with fail
  go_loopg [8, 9, 17] m (fun n sv ov jv wr => ∃ j : Nat, j ≤ m ∧ n = m - j ∧ jv = .int .i64 j ∧ sv = .int .i64 (dotS F G j).1 ∧ ov = .bool (dotS F G j).2 ∧ Below wx.heap.size wx wr)
  case atStart => exact ⟨0, by omega, by omega, rfl, rfl, rfl, Below.refl _ _⟩
  case round =>
    obtain ⟨j, hj, rfl, rfl, rfl, rfl, hbr⟩ := hrel
    by_cases hjm : j < m
    · have HAT := Lib.hid (at_later HA.out hr hm hi hjm)
      have HBT := Lib.hid (at_later HB.out hm hc hjm hk)
      go_wp2_with fail
      go_region_held3 (fun w' => Below wx.heap.size wx w')
        (first | exact hbr.drew | exact below_tr (by assumption) (by assumption) | exact below_tr2 (by assumption) (by assumption))
        (first | (go_at_call_of 72 (Value.int .i64 i); refine (HAT.out _ (by assumption)).mono ?_; rw [HF.out]; rintro e w1 ⟨rfl, hb1⟩) | (go_at_call_of 72 (Value.int .i64 k); refine (HBT.out _ (by assumption)).mono ?_; rw [HG.out]; rintro e w1 ⟨rfl, hb1⟩) | (go_at_call 25; refine (mul_any _ _ _).mono ?_; rintro e w2 ⟨rfl, hb2⟩))
      go_wp2_with (go_at_call 24; refine (add_any _ _ _).mono ?_; rintro e w' ⟨rfl, rfl⟩)
      all_goals
        go_roundg (m - (j + 1))
        case measure => omega
        case rel => exact ⟨j + 1, by omega, rfl, by go_num, rfl, by simp [dotS, *], by assumption⟩
    · have hjm' : j = m := by omega
      subst hjm'
      go_wp2_with fail
      go_ret2
      exact ⟨rfl, hbr⟩

end Go.Proofs.Ytijohedhbbddjaa

namespace Go.Proofs.Ytijohedhbbddjaa
open Go.RowKit

def dotL (xs ys : List Int) (m c : Nat) (i k : Nat) : Int × Bool := dotS (fun j => xs.getD (i * m + j) 0) (fun j => ys.getD (j * c + k) 0) m
def mulL (xs ys : List Int) (r m c : Nat) : List Int := tab (fun i k => (dotL xs ys m c i k).1) c (r * c)
def mulLO (xs ys : List Int) (r m c : Nat) : Bool := tabO (fun i k => (dotL xs ys m c i k).2) c (r * c)

theorem inB_at {w : World} {r c : Nat} {v : Value} {xs : List Int} (h : MV w r c v xs) (t : TypeId) {w' : World} (hb : Below (w.alloc (.cells #[.int .i64 r, .int .i64 c, v] t)).heap.size (w.alloc (.cells #[.int .i64 r, .int .i64 c, v] t)) w') : InB w' w.heap.size r c v xs :=
  (inB_new h t).later hb
theorem inB_at1 {w : World} {r c : Nat} {v : Value} {xs : List Int} (h : MV w r c v xs) (t : TypeId) (o : Obj) {w' : World} (hb : Below ((w.alloc o).alloc (.cells #[.int .i64 r, .int .i64 c, v] t)).heap.size ((w.alloc o).alloc (.cells #[.int .i64 r, .int .i64 c, v] t)) w') : InB w' (w.heap.size + 1) r c v xs := by
  have := inB_at (h.later (below1 w o)) t hb
  simpa using this

set_option maxRecDepth 100000 in
set_option maxHeartbeats 1000000 in
theorem mmul_any (w : World) (r m c : Nat) (v v' : Value) (xs ys : List Int) (h : MV w r m v xs) (h' : MV w m c v' ys) :
    Calls Try.prog 20 #[.agg #[.int .i64 r, .int .i64 m, v], .agg #[.int .i64 m, .int .i64 c, v']] w fun e w' =>
      ∃ ao cap, e = .returned (.tuple #[.agg #[.int .i64 r, .int .i64 c, .slice ao (r * c) cap], .bool (mulLO xs ys r m c), .int .i64 0]) ∧
        w'.ownsRow w.heap.size 25 1 (.slice ao (r * c) cap) (r * c) ((mulL xs ys r m c).map (Value.int .i64)) ∧ Below w.heap.size w w' := by
  obtain ⟨ao, cap, hv, -⟩ := id h.qs
  obtain ⟨bo, bcap, hv', -⟩ := id h'.qs
  subst hv
  subst hv'
  have H := Lib.hid h
  have H' := Lib.hid h'
  clear h h'
  go_enter Try.func20, Try.ntmps20
  go_wp2_with (first | (go_at_call 69; refine (made_any 78 _ _ r c _ _ H.out.hr H'.out.hc enters_mul (mul_tells _ w.heap.size (w.heap.size + 1) r m c _ _ xs ys H.out.hr H.out.hc H'.out.hc (inB_at H.out _ (below2 _ _ _)) (inB_at1 H'.out _ _ (below1 _ _)))).mono ?_; rintro e w2 ⟨ao', cap', rfl, hown, hb⟩; have hR := block_later (heap_at _ _ (w.heap.size + 1 + 1) (by simp)) hb; obtain ⟨hc, hf⟩ := bcell hb; have hz : w.heap.size + 1 + 1 < w2.heap.size := (by have := hb.size; simp at this; omega)))
  have h3 := heap_store3 _ _ _ _ _ (.int .i64 r) (.int .i64 c) (.slice ao' (r * c) cap') _ hR
  refine bodyPost_ret (results_row2 rfl _ _ _ _ _ _ _ rfl ((heap_old _ _ _ (by simpa using hz)).trans h3) Try.underlying24 rfl (by kernel_rfl)) rfl ⟨ao', cap', rfl, ?_, ?_⟩
  · exact ownsRow_base ((owns_set3 hown (by simp) _ _ _).alloc _) (by simp; omega)
  · exact (below_set3 (below_trans2 (below3 _ _ _ _) hb) (by omega) _ _ _).alloc (by simp; omega) _

set_option maxRecDepth 100000 in
set_option maxHeartbeats 1000000 in
theorem mmul_no (w : World) (r m m' c : Int) (v v' : Value) (hne : m ≠ m') :
    Calls Try.prog 20 #[.agg #[.int .i64 r, .int .i64 m, v], .agg #[.int .i64 m', .int .i64 c, v']] w fun e w' =>
      e = .returned (.tuple #[.agg #[.int .i64 0, .int .i64 0, .slice none 0 0], .bool false, .int .i64 9]) ∧ Below w.heap.size w w' := by
  have hne' : (m != m') = true := by simpa using hne
  go_enter Try.func20, Try.ntmps20
  go_wp2_with fail
  refine bodyPost_ret (results_row2 rfl _ _ _ _ _ _ _ rfl (heap_at _ _ _ (by simp)) Try.underlying24 rfl (by kernel_rfl)) rfl ⟨rfl, below3 _ _ _ _⟩

/-- What a function does with two numbers at a place. -/
def Does (f : FuncId) (xs ys : List Int) (g : Int → Int → Int) (o : Int → Int → Bool) : Prop :=
  ∀ (n : Nat) (w : World), n < xs.length → Calls Try.prog f #[.int .i64 (xs.getD n 0), .int .i64 (ys.getD n 0)] w fun e w' => e = .returned (.tuple #[.int .i64 (g (xs.getD n 0) (ys.getD n 0)), .bool (o (xs.getD n 0) (ys.getD n 0))]) ∧ Below w.heap.size w w'

theorem enters_each : Enters 113 := enters_of Try.func113 (by kernel_rfl) (by kernel_rfl)

set_option maxRecDepth 100000 in
set_option maxHeartbeats 400000 in
theorem each_tells (f : FuncId) (he : Enters f) (w : World) (b0 b1 b2 r c : Nat) (v v' : Value) (xs ys : List Int) (g : Int → Int → Int) (o : Int → Int → Bool) (hr : r ≤ 8) (hc : c ≤ 8) (hF : w.cell? ⟨b0, 0, none⟩ = some (.func (.func f) #[] #[]))
    (hA : InB w b1 r c v xs) (hB : InB w b2 r c v' ys) (hd : Does f xs ys g o) :
    Tells 113 #[.pointer (some ⟨b0, 0, none⟩), .pointer (some ⟨b1, 0, none⟩), .pointer (some ⟨b2, 0, none⟩)] w r c (fun i k => g (xs.getD (i * c + k) 0) (ys.getD (i * c + k) 0)) (fun i k => o (xs.getD (i * c + k) 0) (ys.getD (i * c + k) 0)) := by
  intro i k wx hi hk hb
  have hA := hA.later hb
  have hB := hB.later hb
  have hF := cell_later hb hF
  clear hb
  have HAT := Lib.hid (at_later hA hr hc hi hk)
  have HBT := Lib.hid (at_later hB hr hc hi hk)
  have HD := Lib.hid (fun w => hd (i * c + k) w (by rw [hA.len]; exact idx_lt hi hk))
  obtain ⟨a0, a1, a2, aqs, alen⟩ := hA
  obtain ⟨b0', b1', b2', bqs, blen⟩ := hB
  obtain ⟨ao, acap, hv, -⟩ := aqs
  obtain ⟨bo, bcap, hv', -⟩ := bqs
  subst hv
  subst hv'
  clear alen blen hd
  have q0 := cells_later hF
  have r0 := cells_later a0
  have r1 := cells_later a1
  have r2 := cells_later a2
  have s0 := cells_later b0'
  have s1 := cells_later b1'
  have s2 := cells_later b2'
  clear a0 a1 a2 b0' b1' b2' hF
  have he' : ∀ (args : Array Value) (w : World), (callFunc f args).run Try.prog w = .ok (.enter f args) w := he
  obtain ⟨x, hx⟩ : ∃ x, xs.getD (i * c + k) 0 = x := ⟨_, rfl⟩
  obtain ⟨y, hy⟩ : ∃ y, ys.getD (i * c + k) 0 = y := ⟨_, rfl⟩
  simp only [hx, hy] at HAT HBT HD ⊢
  clear hx hy he
  go_enter Try.func113, Try.ntmps113
  go_wp2_with fail
  go_region_held3 (fun w' => Below wx.heap.size wx w')
    (first | exact below_drew _ | exact below_tr (by assumption) (by assumption) | exact below_tr2 (by assumption) (by assumption))
    (first | (go_at_call 72; (with_reducible refine (HAT.out _ (by assumption)).mono ?_); rintro e w1 ⟨rfl, hb1⟩) | (go_at_call 72; (with_reducible refine (HBT.out _ (by assumption)).mono ?_); rintro e w1 ⟨rfl, hb1⟩) | ((with_reducible refine (HD.out _).mono ?_); rintro e w2 ⟨rfl, hb2⟩))
  go_wp2
  go_ret2
  exact ⟨rfl, by assumption⟩

end Go.Proofs.Ytijohedhbbddjaa

namespace Go.Proofs.Ytijohedhbbddjaa
open Go.RowKit

def eachL (g : Int → Int → Int) (xs ys : List Int) (r c : Nat) : List Int := tab (fun i k => g (xs.getD (i * c + k) 0) (ys.getD (i * c + k) 0)) c (r * c)
def eachO (o : Int → Int → Bool) (xs ys : List Int) (r c : Nat) : Bool := tabO (fun i k => o (xs.getD (i * c + k) 0) (ys.getD (i * c + k) 0)) c (r * c)

theorem inB_at2 {w : World} {r c : Nat} {v : Value} {xs : List Int} (h : MV w r c v xs) (t : TypeId) (o : Obj) {w' : World} (hb : Below ((w.alloc o).alloc (.cells #[.int .i64 r, .int .i64 c, v] t)).heap.size ((w.alloc o).alloc (.cells #[.int .i64 r, .int .i64 c, v] t)) w') : InB w' (w.heap.size + 1) r c v xs := inB_at1 h t o hb

set_option maxRecDepth 100000 in
set_option maxHeartbeats 1000000 in
theorem each_any (f : FuncId) (he : Enters f) (w : World) (r c : Nat) (v v' : Value) (xs ys : List Int) (g : Int → Int → Int) (o : Int → Int → Bool) (h : MV w r c v xs) (h' : MV w r c v' ys) (hd : Does f xs ys g o) :
    Calls Try.prog 76 #[.agg #[.int .i64 r, .int .i64 c, v], .agg #[.int .i64 r, .int .i64 c, v'], .func (.func f) #[] #[]] w fun e w' =>
      ∃ ao cap, e = .returned (.tuple #[.agg #[.int .i64 r, .int .i64 c, .slice ao (r * c) cap], .bool (eachO o xs ys r c), .int .i64 0]) ∧
        w'.ownsRow w.heap.size 25 1 (.slice ao (r * c) cap) (r * c) ((eachL g xs ys r c).map (Value.int .i64)) ∧ Below w.heap.size w w' := by
  obtain ⟨ao, cap, hv, -⟩ := id h.qs
  obtain ⟨bo, bcap, hv', -⟩ := id h'.qs
  subst hv
  subst hv'
  have H := Lib.hid h
  have H' := Lib.hid h'
  have HD := Lib.hid hd
  have HE := Lib.hid he
  clear h h' hd he
  go_enter Try.func76, Try.ntmps76
  go_wp2_with fail
  obtain ⟨W0, hW0⟩ : ∃ W0, W0 = (((w.alloc (.cells #[.int .i64 r, .int .i64 c, .slice ao xs.length cap] 24)).alloc (.cells #[.int .i64 r, .int .i64 c, .slice bo ys.length bcap] 24)).alloc (.cells #[.func (.func f) #[] #[]] 31)).alloc (.cells #[.int .i64 0, .int .i64 0, .slice none 0 0] 24) := ⟨_, rfl⟩
  rw [← hW0]
  have hA : InB W0 w.heap.size r c (.slice ao xs.length cap) xs := by rw [hW0]; exact inB_at H.out _ (below3 _ _ _ _)
  have hB : InB W0 (w.heap.size + 1) r c (.slice bo ys.length bcap) ys := by rw [hW0]; exact inB_at1 H'.out _ _ (below2 _ _ _)
  have hF : W0.cell? ⟨w.heap.size + 1 + 1, 0, none⟩ = some (.func (.func f) #[] #[]) := by rw [hW0]; simp [go_sem]
  have hR : W0.heap[w.heap.size + 1 + 1 + 1]? = some (.cells #[.int .i64 0, .int .i64 0, .slice none 0 0] 24 (0, 0)) := by rw [hW0]; exact heap_at _ _ _ (by simp)
  have hsz : W0.heap.size = w.heap.size + 1 + 1 + 1 + 1 := by rw [hW0]; simp
  have hBw : Below w.heap.size w W0 := by rw [hW0]; exact below4 _ _ _ _ _
  clear hW0
  have HA := Lib.hid hA
  have HB := Lib.hid hB
  have HF := Lib.hid hF
  have HR := Lib.hid hR
  have HBw := Lib.hid hBw
  have HSZ := Lib.hid hsz
  have r0 := cells_later hA.c0
  have r1 := cells_later hA.c1
  have r2 := cells_later hA.c2
  have s0 := cells_later hB.c0
  have s1 := cells_later hB.c1
  have s2 := cells_later hB.c2
  clear hA hB hF hR hBw hsz
  go_region_held3 (fun w' => Below W0.heap.size W0 w')
    (first | exact below_drew _ | exact below_tr (by assumption) (by assumption) | exact below_tr2 (by assumption) (by assumption))
    (first | (go_at_call 70; refine (of_any _ _ _ _).mono ?_; rintro e w1 ⟨rfl, hb1⟩))
  have hb1 : Below W0.heap.size W0 w1 := by assumption
  go_wp2_with (first | (go_at_call 70; refine (of_any _ _ _ _).mono ?_; rintro e w2 ⟨rfl, hb2⟩; have hb12 := below_trans2 hb1 hb2) | (go_at_call 69; refine (made_any 113 _ _ r c _ _ H.out.hr H.out.hc enters_each (each_tells f HE.out _ (w.heap.size + 1 + 1) w.heap.size (w.heap.size + 1) r c _ _ xs ys g o H.out.hr H.out.hc (cell_later hb12 HF.out) (HA.out.later hb12) (HB.out.later hb12) HD.out)).mono ?_; rintro e w3 ⟨ao', cap', rfl, hown, hb3⟩; have hb := below_trans2 hb12 hb3; have hR := block_later HR.out hb; have t0 := cell_of_row _ _ 0 _ _ _ hR; have t1 := cell_of_row _ _ 1 _ _ _ hR; have t2 := cell_of_row _ _ 2 _ _ _ hR; have f0 := frozen_of_row _ _ 0 _ _ hR; have f1 := frozen_of_row _ _ 1 _ _ hR; have f2 := frozen_of_row _ _ 2 _ _ hR; have hz : w.heap.size + 1 + 1 + 1 < w3.heap.size := lt_of_block hR))
  have h3 := heap_store3 _ _ _ _ _ (.int .i64 r) (.int .i64 c) (.slice ao' (r * c) cap') _ hR
  have hs1 : w.heap.size + 1 + 1 + 1 + 1 ≤ w1.heap.size := by have := hb1.size; rw [HSZ.out] at this; exact this
  have hs2 : w1.heap.size ≤ w2.heap.size := by have := hb2.size; exact this
  refine bodyPost_ret (results_row2 rfl _ _ _ _ _ _ _ rfl ((heap_old _ _ _ (by simpa using hz)).trans h3) Try.underlying24 rfl (by kernel_rfl)) rfl ⟨ao', cap', rfl, ?_, ?_⟩
  · exact ownsRow_base ((owns_set3 hown (by omega) _ _ _).alloc _) (by omega)
  · exact (below_set3 (below_trans2 HBw.out hb) (by omega) _ _ _).alloc (by simp; omega) _

set_option maxRecDepth 100000 in
set_option maxHeartbeats 1000000 in
theorem each_no (f : FuncId) (w : World) (r c r' c' : Int) (ao bo : Option Addr) (n m cap cap' : Nat) (hne : ¬ (r = r' ∧ c = c')) :
    Calls Try.prog 76 #[.agg #[.int .i64 r, .int .i64 c, .slice ao n cap], .agg #[.int .i64 r', .int .i64 c', .slice bo m cap'], .func (.func f) #[] #[]] w fun e w' =>
      e = .returned (.tuple #[.agg #[.int .i64 0, .int .i64 0, .slice none 0 0], .bool false, .int .i64 9]) ∧ Below w.heap.size w w' := by
  by_cases h1 : r = r'
  · subst h1
    have h3 : (c == c') = false := by simpa using fun e => hne ⟨rfl, e⟩
    clear hne
    go_enter Try.func76, Try.ntmps76
    go_wp2_with fail
    obtain ⟨W0, hW0⟩ : ∃ W0, W0 = (((w.alloc (.cells #[.int .i64 r, .int .i64 c, .slice ao n cap] 24)).alloc (.cells #[.int .i64 r, .int .i64 c', .slice bo m cap'] 24)).alloc (.cells #[.func (.func f) #[] #[]] 31)).alloc (.cells #[.int .i64 0, .int .i64 0, .slice none 0 0] 24) := ⟨_, rfl⟩
    rw [← hW0]
    have hA0 : W0.cell? ⟨w.heap.size, 0, none⟩ = some (.int .i64 r) := by rw [hW0]; simp [go_sem]
    have hA1 : W0.cell? ⟨w.heap.size, 1, none⟩ = some (.int .i64 c) := by rw [hW0]; simp [go_sem]
    have hA2 : W0.cell? ⟨w.heap.size, 2, none⟩ = some (.slice ao n cap) := by rw [hW0]; simp [go_sem]
    have hB0 : W0.cell? ⟨w.heap.size + 1, 0, none⟩ = some (.int .i64 r) := by rw [hW0]; simp [go_sem]
    have hB1 : W0.cell? ⟨w.heap.size + 1, 1, none⟩ = some (.int .i64 c') := by rw [hW0]; simp [go_sem]
    have hB2 : W0.cell? ⟨w.heap.size + 1, 2, none⟩ = some (.slice bo m cap') := by rw [hW0]; simp [go_sem]
    have hR : W0.heap[w.heap.size + 1 + 1 + 1]? = some (.cells #[.int .i64 0, .int .i64 0, .slice none 0 0] 24 (0, 0)) := by rw [hW0]; exact heap_at _ _ _ (by simp)
    have hBw : Below w.heap.size w W0 := by rw [hW0]; exact below4 _ _ _ _ _
    clear hW0
    have HR := Lib.hid hR
    have HBw := Lib.hid hBw
    have r0 := cells_later hA0
    have r1 := cells_later hA1
    have r2 := cells_later hA2
    have s0 := cells_later hB0
    have s1 := cells_later hB1
    have s2 := cells_later hB2
    clear hA0 hA1 hA2 hB0 hB1 hB2 hR hBw
    go_region_held3 (fun w' => Below W0.heap.size W0 w')
      (first | exact below_drew _ | exact below_tr (by assumption) (by assumption) | exact below_tr2 (by assumption) (by assumption))
      (first | (go_at_call 70; refine (of_any _ _ _ _).mono ?_; rintro e w1 ⟨rfl, hb1⟩))
    have hb1 : Below W0.heap.size W0 w1 := by assumption
    have hRr := block_later HR.out hb1
    have t0 := cell_of_row _ _ 0 _ _ _ hRr
    have t1 := cell_of_row _ _ 1 _ _ _ hRr
    have t2 := cell_of_row _ _ 2 _ _ _ hRr
    have f0 := frozen_of_row _ _ 0 _ _ hRr
    have f1 := frozen_of_row _ _ 1 _ _ hRr
    have f2 := frozen_of_row _ _ 2 _ _ hRr
    go_wp2_with fail
    refine bodyPost_ret (results_row2 rfl _ _ _ _ _ _ _ rfl (heap_store3 _ _ _ _ _ (.int .i64 0) (.int .i64 0) (.slice none 0 0) _ hRr) Try.underlying24 rfl (by kernel_rfl)) rfl ⟨rfl, below_set3 (below_trans2 HBw.out hb1) (by omega) _ _ _⟩
  · have h3 : (r == r') = false := by simpa using h1
    clear hne h1
    go_enter Try.func76, Try.ntmps76
    go_wp2_with fail
    obtain ⟨W0, hW0⟩ : ∃ W0, W0 = (((w.alloc (.cells #[.int .i64 r, .int .i64 c, .slice ao n cap] 24)).alloc (.cells #[.int .i64 r', .int .i64 c', .slice bo m cap'] 24)).alloc (.cells #[.func (.func f) #[] #[]] 31)).alloc (.cells #[.int .i64 0, .int .i64 0, .slice none 0 0] 24) := ⟨_, rfl⟩
    rw [← hW0]
    have hA0 : W0.cell? ⟨w.heap.size, 0, none⟩ = some (.int .i64 r) := by rw [hW0]; simp [go_sem]
    have hA1 : W0.cell? ⟨w.heap.size, 1, none⟩ = some (.int .i64 c) := by rw [hW0]; simp [go_sem]
    have hA2 : W0.cell? ⟨w.heap.size, 2, none⟩ = some (.slice ao n cap) := by rw [hW0]; simp [go_sem]
    have hB0 : W0.cell? ⟨w.heap.size + 1, 0, none⟩ = some (.int .i64 r') := by rw [hW0]; simp [go_sem]
    have hB1 : W0.cell? ⟨w.heap.size + 1, 1, none⟩ = some (.int .i64 c') := by rw [hW0]; simp [go_sem]
    have hB2 : W0.cell? ⟨w.heap.size + 1, 2, none⟩ = some (.slice bo m cap') := by rw [hW0]; simp [go_sem]
    have hR : W0.heap[w.heap.size + 1 + 1 + 1]? = some (.cells #[.int .i64 0, .int .i64 0, .slice none 0 0] 24 (0, 0)) := by rw [hW0]; exact heap_at _ _ _ (by simp)
    have hBw : Below w.heap.size w W0 := by rw [hW0]; exact below4 _ _ _ _ _
    clear hW0
    have HR := Lib.hid hR
    have HBw := Lib.hid hBw
    have r0 := cells_later hA0
    have r1 := cells_later hA1
    have r2 := cells_later hA2
    have s0 := cells_later hB0
    have s1 := cells_later hB1
    have s2 := cells_later hB2
    clear hA0 hA1 hA2 hB0 hB1 hB2 hR hBw
    go_region_held3 (fun w' => Below W0.heap.size W0 w')
      (first | exact below_drew _ | exact below_tr (by assumption) (by assumption) | exact below_tr2 (by assumption) (by assumption))
      (first | (go_at_call 70; refine (of_any _ _ _ _).mono ?_; rintro e w1 ⟨rfl, hb1⟩))
    have hb1 : Below W0.heap.size W0 w1 := by assumption
    have hRr := block_later HR.out hb1
    have t0 := cell_of_row _ _ 0 _ _ _ hRr
    have t1 := cell_of_row _ _ 1 _ _ _ hRr
    have t2 := cell_of_row _ _ 2 _ _ _ hRr
    have f0 := frozen_of_row _ _ 0 _ _ hRr
    have f1 := frozen_of_row _ _ 1 _ _ hRr
    have f2 := frozen_of_row _ _ 2 _ _ hRr
    go_wp2_with fail
    refine bodyPost_ret (results_row2 rfl _ _ _ _ _ _ _ rfl (heap_store3 _ _ _ _ _ (.int .i64 0) (.int .i64 0) (.slice none 0 0) _ hRr) Try.underlying24 rfl (by kernel_rfl)) rfl ⟨rfl, below_set3 (below_trans2 HBw.out hb1) (by omega) _ _ _⟩

theorem does_add (xs ys : List Int) : Does 24 xs ys addQ addO := fun n w _ => (add_any _ _ w).mono fun _ _ ⟨he, hw⟩ => ⟨he, hw ▸ Below.refl _ _⟩
theorem does_sub (xs ys : List Int) : Does 39 xs ys subQ subO := fun n w _ => (sub_any _ _ w).mono fun _ _ ⟨he, hw⟩ => ⟨he, hw ▸ Below.refl _ _⟩
theorem enters_add : Enters 24 := enters_of Try.func24 (by kernel_rfl) (by kernel_rfl)
theorem enters_sub : Enters 39 := enters_of Try.func39 (by kernel_rfl) (by kernel_rfl)

set_option maxRecDepth 100000 in
set_option maxHeartbeats 1000000 in
theorem madd_any (w : World) (r c : Nat) (v v' : Value) (xs ys : List Int) (h : MV w r c v xs) (h' : MV w r c v' ys) :
    Calls Try.prog 16 #[.agg #[.int .i64 r, .int .i64 c, v], .agg #[.int .i64 r, .int .i64 c, v']] w fun e w' =>
      ∃ ao cap, e = .returned (.tuple #[.agg #[.int .i64 r, .int .i64 c, .slice ao (r * c) cap], .bool (eachO addO xs ys r c), .int .i64 0]) ∧
        w'.ownsRow w.heap.size 25 1 (.slice ao (r * c) cap) (r * c) ((eachL addQ xs ys r c).map (Value.int .i64)) ∧ Below w.heap.size w w' := by
  obtain ⟨ao, cap, hv, -⟩ := id h.qs
  obtain ⟨bo, bcap, hv', -⟩ := id h'.qs
  subst hv
  subst hv'
  have H := Lib.hid h
  have H' := Lib.hid h'
  clear h h'
  go_enter Try.func16, Try.ntmps16
  go_wp2_with (first | (go_at_call 76; refine (each_any 24 enters_add _ r c _ _ xs ys addQ addO (H.out.later (below3 _ _ _ _)) (H'.out.later (below3 _ _ _ _)) (does_add _ _)).mono ?_; rintro e w2 ⟨ao', cap', rfl, hown, hb⟩; have hR := block_later (heap_at _ _ (w.heap.size + 1 + 1) (by simp)) hb; obtain ⟨hc, hf⟩ := bcell hb))
  have h3 := heap_store3 _ _ _ _ _ (.int .i64 r) (.int .i64 c) (.slice ao' (r * c) cap') _ hR
  refine bodyPost_ret (results_row2 rfl _ _ _ _ _ _ _ rfl h3 Try.underlying24 rfl (by kernel_rfl)) rfl ⟨ao', cap', rfl, ?_, ?_⟩
  · exact ownsRow_base (owns_set3 hown (by simp) _ _ _) (by simp; omega)
  · exact below_set3 (below_trans2 (below3 _ _ _ _) hb) (by omega) _ _ _

set_option maxRecDepth 100000 in
set_option maxHeartbeats 1000000 in
theorem msub_any (w : World) (r c : Nat) (v v' : Value) (xs ys : List Int) (h : MV w r c v xs) (h' : MV w r c v' ys) :
    Calls Try.prog 18 #[.agg #[.int .i64 r, .int .i64 c, v], .agg #[.int .i64 r, .int .i64 c, v']] w fun e w' =>
      ∃ ao cap, e = .returned (.tuple #[.agg #[.int .i64 r, .int .i64 c, .slice ao (r * c) cap], .bool (eachO subO xs ys r c), .int .i64 0]) ∧
        w'.ownsRow w.heap.size 25 1 (.slice ao (r * c) cap) (r * c) ((eachL subQ xs ys r c).map (Value.int .i64)) ∧ Below w.heap.size w w' := by
  obtain ⟨ao, cap, hv, -⟩ := id h.qs
  obtain ⟨bo, bcap, hv', -⟩ := id h'.qs
  subst hv
  subst hv'
  have H := Lib.hid h
  have H' := Lib.hid h'
  clear h h'
  go_enter Try.func18, Try.ntmps18
  go_wp2_with (first | (go_at_call 76; refine (each_any 39 enters_sub _ r c _ _ xs ys subQ subO (H.out.later (below3 _ _ _ _)) (H'.out.later (below3 _ _ _ _)) (does_sub _ _)).mono ?_; rintro e w2 ⟨ao', cap', rfl, hown, hb⟩; have hR := block_later (heap_at _ _ (w.heap.size + 1 + 1) (by simp)) hb; obtain ⟨hc, hf⟩ := bcell hb))
  have h3 := heap_store3 _ _ _ _ _ (.int .i64 r) (.int .i64 c) (.slice ao' (r * c) cap') _ hR
  refine bodyPost_ret (results_row2 rfl _ _ _ _ _ _ _ rfl h3 Try.underlying24 rfl (by kernel_rfl)) rfl ⟨ao', cap', rfl, ?_, ?_⟩
  · exact ownsRow_base (owns_set3 hown (by simp) _ _ _) (by simp; omega)
  · exact below_set3 (below_trans2 (below3 _ _ _ _) hb) (by omega) _ _ _

end Go.Proofs.Ytijohedhbbddjaa

namespace Go.Proofs.Ytijohedhbbddjaa
open Go.RowKit

set_option maxRecDepth 100000 in
set_option maxHeartbeats 1000000 in
theorem madd_no (w : World) (r c r' c' : Int) (ao bo : Option Addr) (n m cap cap' : Nat) (hne : ¬ (r = r' ∧ c = c')) :
    Calls Try.prog 16 #[.agg #[.int .i64 r, .int .i64 c, .slice ao n cap], .agg #[.int .i64 r', .int .i64 c', .slice bo m cap']] w fun e w' =>
      e = .returned (.tuple #[.agg #[.int .i64 0, .int .i64 0, .slice none 0 0], .bool false, .int .i64 9]) ∧ Below w.heap.size w w' := by
  have HN := Lib.hid hne
  clear hne
  go_enter Try.func16, Try.ntmps16
  go_wp2_with (first | (go_at_call 76; refine (each_no _ _ _ _ _ _ _ _ _ _ _ _ HN.out).mono ?_; rintro e w2 ⟨rfl, hb⟩; have hR := block_later (heap_at _ _ (w.heap.size + 1 + 1) (by simp)) hb; obtain ⟨hc, hf⟩ := bcell hb))
  exact bodyPost_ret (results_row2 rfl _ _ _ _ _ _ _ rfl (heap_store3 _ _ _ _ _ (.int .i64 0) (.int .i64 0) (.slice none 0 0) _ hR) Try.underlying24 rfl (by kernel_rfl)) rfl ⟨rfl, below_set3 (below_trans2 (below3 _ _ _ _) hb) (by omega) _ _ _⟩

set_option maxRecDepth 100000 in
set_option maxHeartbeats 1000000 in
theorem msub_no (w : World) (r c r' c' : Int) (ao bo : Option Addr) (n m cap cap' : Nat) (hne : ¬ (r = r' ∧ c = c')) :
    Calls Try.prog 18 #[.agg #[.int .i64 r, .int .i64 c, .slice ao n cap], .agg #[.int .i64 r', .int .i64 c', .slice bo m cap']] w fun e w' =>
      e = .returned (.tuple #[.agg #[.int .i64 0, .int .i64 0, .slice none 0 0], .bool false, .int .i64 9]) ∧ Below w.heap.size w w' := by
  have HN := Lib.hid hne
  clear hne
  go_enter Try.func18, Try.ntmps18
  go_wp2_with (first | (go_at_call 76; refine (each_no _ _ _ _ _ _ _ _ _ _ _ _ HN.out).mono ?_; rintro e w2 ⟨rfl, hb⟩; have hR := block_later (heap_at _ _ (w.heap.size + 1 + 1) (by simp)) hb; obtain ⟨hc, hf⟩ := bcell hb))
  exact bodyPost_ret (results_row2 rfl _ _ _ _ _ _ _ rfl (heap_store3 _ _ _ _ _ (.int .i64 0) (.int .i64 0) (.slice none 0 0) _ hR) Try.underlying24 rfl (by kernel_rfl)) rfl ⟨rfl, below_set3 (below_trans2 (below3 _ _ _ _) hb) (by omega) _ _ _⟩

def InQ (xs : List Int) : Prop := ∀ n, -70368744177664 ≤ xs.getD n 0 ∧ xs.getD n 0 ≤ 70368744177663

theorem enters_even : Enters 90 := enters_of Try.func90 (by kernel_rfl) (by kernel_rfl)

set_option maxHeartbeats 400000 in
theorem even1_any (x y : Int) (w : World) (hx : -70368744177664 ≤ x ∧ x ≤ 70368744177663) (hy : -70368744177664 ≤ y ∧ y ≤ 70368744177663) :
    Calls Try.prog 90 #[.int .i64 x, .int .i64 y] w fun e w' => e = .returned (.tuple #[.int .i64 (half1 (x + y)), .bool false]) ∧ w = w' := by
  go_enter Try.func90, Try.ntmps90
  go_wp2_with (go_at_call 80; refine (half1_any _ _ (by omega) (by omega)).mono ?_; rintro e w' ⟨rfl, rfl⟩)
  go_ret2
  exact ⟨rfl, rfl⟩

theorem does_even {xs ys : List Int} (hx : InQ xs) (hy : InQ ys) : Does 90 xs ys (fun x y => half1 (x + y)) (fun _ _ => false) := fun n w _ => (even1_any _ _ w (hx n) (hy n)).mono fun _ _ ⟨he, hw⟩ => ⟨he, hw ▸ Below.refl _ _⟩

def transL (xs : List Int) (r c : Nat) : List Int := tab (fun i k => xs.getD (k * c + i) 0) r (c * r)

theorem transL_inQ {xs : List Int} (h : InQ xs) (r c : Nat) : InQ (transL xs r c) := by
  intro n
  unfold transL tab
  rw [List.getD_eq_getElem?_getD, List.getElem?_map]
  by_cases hn : n < c * r
  · rw [List.getElem?_range hn]; exact h _
  · rw [List.getElem?_eq_none (by simp; omega)]; simp

theorem mv_owns {w : World} {base r c : Nat} {v : Value} {xs : List Int} (h : w.ownsRow base 25 1 v (r * c) (xs.map (Value.int .i64))) (hr : r ≤ 8) (hc : c ≤ 8) : MV w r c v xs :=
  ⟨QS.of_owns h, by have := h.1; simpa using this, hr, hc⟩

set_option maxRecDepth 100000 in
set_option maxHeartbeats 1000000 in
theorem even_any (w : World) (n : Nat) (v : Value) (xs : List Int) (h : MV w n n v xs) (hq : InQ xs) :
    Calls Try.prog 34 #[.agg #[.int .i64 n, .int .i64 n, v]] w fun e w' =>
      ∃ ao cap, e = .returned (.tuple #[.agg #[.int .i64 n, .int .i64 n, .slice ao (n * n) cap], .bool (eachO (fun _ _ => false) xs (transL xs n n) n n), .int .i64 0]) ∧
        w'.ownsRow w.heap.size 25 1 (.slice ao (n * n) cap) (n * n) ((eachL (fun x y => half1 (x + y)) xs (transL xs n n) n n).map (Value.int .i64)) ∧ Below w.heap.size w w' := by
  obtain ⟨ao, cap, hv, -⟩ := id h.qs
  subst hv
  have H := Lib.hid h
  have HQ := Lib.hid hq
  clear h hq
  go_enter Try.func34, Try.ntmps34
  go_wp2_with fail
  obtain ⟨W1, hW1⟩ : ∃ W1, W1 = w.alloc (.cells #[.int .i64 n, .int .i64 n, .slice ao xs.length cap] 24) := ⟨_, rfl⟩
  rw [← hW1]
  have hs1 : w.heap.size = W1.heap.size - 1 := by rw [hW1]; simp
  have r0 := cells_later (w := W1) (a := ⟨w.heap.size, 0, none⟩) (v := .int .i64 n) (by rw [hW1]; simp [go_sem])
  have r1 := cells_later (w := W1) (a := ⟨w.heap.size, 1, none⟩) (v := .int .i64 n) (by rw [hW1]; simp [go_sem])
  have r2 := cells_later (w := W1) (a := ⟨w.heap.size, 2, none⟩) (v := .slice ao xs.length cap) (by rw [hW1]; simp [go_sem])
  have hM : MV W1 n n (.slice ao xs.length cap) xs := by rw [hW1]; exact H.out.later (below1 _ _)
  have HM := Lib.hid hM
  have HB1 : Hid (Below w.heap.size w W1) := by rw [hW1]; exact below1 _ _
  have HS : Hid (W1.heap.size = w.heap.size + 1) := by rw [hW1]; exact World.size_alloc ..
  clear hM hW1 hs1
  obtain ⟨W2, hW2⟩ : ∃ W2, W2 = W1.alloc (.cells #[.int .i64 0, .int .i64 0, .slice none 0 0] 24) := ⟨_, rfl⟩
  rw [← hW2]
  have HR : Hid (W2.heap[w.heap.size + 1]? = some (.cells #[.int .i64 0, .int .i64 0, .slice none 0 0] 24 (0, 0))) := by rw [hW2]; exact heap_at _ _ _ HS.out.symm
  have HB2 : Hid (Below W1.heap.size W1 W2) := by rw [hW2]; exact below1 _ _
  clear hW2
  go_region_held3 (fun w' => Below W1.heap.size W1 w')
    (first | exact (Below.drew HB2.out) | exact below_tr (by assumption) (by assumption) | exact below_tr2 (by assumption) (by assumption) | exact below_set3 (by assumption) (Nat.le_of_eq HS.out) _ _ _)
    (first | (go_at_call 36; (refine (trans_any _ n n _ xs (HM.out.later (by assumption))).mono ?_); rintro e w1 ⟨ao1, cap1, rfl, hown1, hb1⟩; have hB1 : Below W2.heap.size W2 w1 := below_tr2 hb1 (below_drew _)) | (go_at_call 76; refine (each_any 90 enters_even _ n n _ _ xs (transL xs n n) _ _ (HM.out.later (by assumption)) (mv_owns hown1 HM.out.hr HM.out.hr) (does_even HQ.out (transL_inQ HQ.out _ _))).mono ?_; rintro e w2 ⟨ao2, cap2, rfl, hown2, hb2⟩; have hB2 := below_trans2 hB1 hb2; have hR2 := block_later HR.out hB2; have t0 := cell_of_row _ _ 0 _ _ _ hR2; have t1 := cell_of_row _ _ 1 _ _ _ hR2; have t2 := cell_of_row _ _ 2 _ _ _ hR2; have f0 := frozen_of_row _ _ 0 _ _ hR2; have f1 := frozen_of_row _ _ 1 _ _ hR2; have f2 := frozen_of_row _ _ 2 _ _ hR2))
  go_wp2
  have h3 := heap_store3 _ _ _ _ _ (.int .i64 n) (.int .i64 n) (.slice ao2 (n * n) cap2) _ hR2
  have hs2 : w.heap.size + 1 + 1 ≤ W2.heap.size := by have := lt_of_block HR.out; omega
  have hs3 : W2.heap.size ≤ w1.heap.size := hB1.size
  refine bodyPost_ret (results_row2 rfl _ _ _ _ _ _ _ rfl h3 Try.underlying24 rfl (by kernel_rfl)) rfl ⟨ao2, cap2, rfl, ?_, ?_⟩
  · exact ownsRow_base (owns_set3 hown2 (by omega) _ _ _) (by omega)
  · exact below_set3 (below_trans2 HB1.out (below_trans2 HB2.out hB2)) (by omega) _ _ _

set_option maxRecDepth 100000 in
set_option maxHeartbeats 1000000 in
theorem even_no (w : World) (r c : Nat) (v : Value) (xs : List Int) (h : MV w r c v xs) (hne : r ≠ c) :
    Calls Try.prog 34 #[.agg #[.int .i64 r, .int .i64 c, v]] w fun e w' =>
      e = .returned (.tuple #[.agg #[.int .i64 0, .int .i64 0, .slice none 0 0], .bool false, .int .i64 9]) ∧ Below w.heap.size w w' := by
  obtain ⟨ao, cap, hv, -⟩ := id h.qs
  subst hv
  have H := Lib.hid h
  have HN : Hid (¬ ((r : Int) = (c : Int) ∧ (c : Int) = (r : Int))) := by show ¬ _; omega
  clear h hne
  go_enter Try.func34, Try.ntmps34
  go_wp2_with fail
  obtain ⟨W1, hW1⟩ : ∃ W1, W1 = w.alloc (.cells #[.int .i64 r, .int .i64 c, .slice ao xs.length cap] 24) := ⟨_, rfl⟩
  rw [← hW1]
  have r0 := cells_later (w := W1) (a := ⟨w.heap.size, 0, none⟩) (v := .int .i64 r) (by rw [hW1]; simp [go_sem])
  have r1 := cells_later (w := W1) (a := ⟨w.heap.size, 1, none⟩) (v := .int .i64 c) (by rw [hW1]; simp [go_sem])
  have r2 := cells_later (w := W1) (a := ⟨w.heap.size, 2, none⟩) (v := .slice ao xs.length cap) (by rw [hW1]; simp [go_sem])
  have hM : MV W1 r c (.slice ao xs.length cap) xs := by rw [hW1]; exact H.out.later (below1 _ _)
  have HM := Lib.hid hM
  have HB1 : Hid (Below w.heap.size w W1) := by rw [hW1]; exact below1 _ _
  have HS : Hid (W1.heap.size = w.heap.size + 1) := by rw [hW1]; exact World.size_alloc ..
  clear hM hW1
  obtain ⟨W2, hW2⟩ : ∃ W2, W2 = W1.alloc (.cells #[.int .i64 0, .int .i64 0, .slice none 0 0] 24) := ⟨_, rfl⟩
  rw [← hW2]
  have HR : Hid (W2.heap[w.heap.size + 1]? = some (.cells #[.int .i64 0, .int .i64 0, .slice none 0 0] 24 (0, 0))) := by rw [hW2]; exact heap_at _ _ _ HS.out.symm
  have HB2 : Hid (Below W1.heap.size W1 W2) := by rw [hW2]; exact below1 _ _
  clear hW2
  go_region_held3 (fun w' => Below W1.heap.size W1 w')
    (first | exact (Below.drew HB2.out) | exact below_tr (by assumption) (by assumption) | exact below_tr2 (by assumption) (by assumption) | exact below_set3 (by assumption) (Nat.le_of_eq HS.out) _ _ _)
    (first | (go_at_call 36; (refine (trans_any _ r c _ xs (HM.out.later (by assumption))).mono ?_); rintro e w1 ⟨ao1, cap1, rfl, hown1, hb1⟩; have hB1 : Below W2.heap.size W2 w1 := below_tr2 hb1 (below_drew _)) | (go_at_call 76; refine (each_no 90 _ _ _ _ _ _ _ _ _ _ _ HN.out).mono ?_; rintro e w2 ⟨rfl, hb2⟩; have hB2 := below_trans2 hB1 hb2; have hR2 := block_later HR.out hB2; have t0 := cell_of_row _ _ 0 _ _ _ hR2; have t1 := cell_of_row _ _ 1 _ _ _ hR2; have t2 := cell_of_row _ _ 2 _ _ _ hR2; have f0 := frozen_of_row _ _ 0 _ _ hR2; have f1 := frozen_of_row _ _ 1 _ _ hR2; have f2 := frozen_of_row _ _ 2 _ _ hR2))
  go_wp2
  have h3 := heap_store3 _ _ _ _ _ (.int .i64 0) (.int .i64 0) (.slice none 0 0) _ hR2
  exact bodyPost_ret (results_row2 rfl _ _ _ _ _ _ _ rfl h3 Try.underlying24 rfl (by kernel_rfl)) rfl ⟨rfl, below_set3 (below_trans2 HB1.out (below_trans2 HB2.out hB2)) (by omega) _ _ _⟩

end Go.Proofs.Ytijohedhbbddjaa

namespace Go.Proofs.Ytijohedhbbddjaa
open Go.RowKit

/-- What a predicate tells of a number. -/
def PredQ (f : FuncId) (caps : Array Value) (w0 : World) (p : Int → Bool) : Prop :=
  ∀ (x : Int) (w : World), Below w0.heap.size w0 w → Calls Try.prog f (#[.int .i64 x] ++ caps) w fun e w' => e = .returned (.bool (p x)) ∧ Below w.heap.size w w'

theorem any_take_succ {p : Int → Bool} {xs : List Int} {k : Nat} (hk : k < xs.length) : (xs.take (k + 1)).any p = ((xs.take k).any p || p xs[k]) := by
  rw [List.take_succ_eq_append_getElem hk, List.any_append]; simp

theorem qs_cell {w : World} {ao : Option Addr} {cap : Nat} {xs : List Int} (h : QS w (.slice ao xs.length cap) xs) {k : Nat} (hk : k < xs.length) : ∃ b off, ao = some ⟨b, off, none⟩ ∧ w.cell? ⟨b, off + k, none⟩ = some (.int .i64 xs[k]) := by
  obtain ⟨b, off, c, he, hc⟩ := h.cell hk
  cases he
  exact ⟨b, off, rfl, hc⟩

set_option maxHeartbeats 400000 in
theorem indexQ_any (f : FuncId) (he : Enters f) (caps : Array Value) (w : World) (v : Value) (xs : List Int) (p : Int → Bool) (h : QS w v xs) (hl : xs.length ≤ 9223372036854775807) (hp : PredQ f caps w p) :
    Calls Try.prog 116 #[v, .func (.func f) #[] caps] w fun e w' => ∃ n : Int, e = .returned (.int .i64 n) ∧ decide (n ≥ 0) = xs.any p ∧ Below w.heap.size w w' := by
  obtain ⟨ao, cap, hv, -⟩ := id h
  subst hv
  have H := Lib.hid h
  have HP := Lib.hid hp
  clear h hp
  go_enter Try.func116, Try.ntmps116
  go_wp2_with fail
  go_loopg [8] xs.length (fun n kv wr => ∃ k : Nat, k ≤ xs.length ∧ n = xs.length - k ∧ kv = .int .i64 k ∧ (xs.take k).any p = false ∧ Below w.heap.size w wr)
  case atStart => exact ⟨0, by omega, by omega, rfl, by simp, Below.refl _ _⟩
  case round =>
    obtain ⟨k, hk, rfl, rfl, ha, hb⟩ := hrel
    have HA := Lib.hid ha
    have HB := Lib.hid hb
    clear ha hb
    by_cases hlt : k < xs.length
    · obtain ⟨b, off, rfl, hc⟩ := qs_cell H.out hlt
      have hc := cell_later HB.out hc
      obtain ⟨x, hx⟩ : ∃ x, xs[k] = x := ⟨_, rfl⟩
      have HX := Lib.hid hx
      rw [hx] at hc
      clear hx
      obtain ⟨t, ht⟩ : ∃ t, p x = t := ⟨_, rfl⟩
      have HT := Lib.hid ht
      have hcall := HP.out x _ HB.out
      rw [ht] at hcall
      have HC := Lib.hid hcall
      clear ht hcall
      go_wp2_with (first | (refine wpList_call_value rfl (.tmp 11) _ _ rfl f caps rfl he _ rfl ?_; refine HC.out.mono ?_; rintro e w1 ⟨rfl, hb1⟩))
      · go_ret
        refine ⟨k, rfl, ?_, below_trans2 HB.out (by assumption)⟩
        have h1 : t = true := by assumption
        have : xs.any p = true := List.any_eq_true.2 ⟨xs[k], List.getElem_mem _, by rw [HX.out, HT.out, h1]⟩
        rw [this]; simp
      · have h1 : t = false := by assumption
        go_roundg (xs.length - (k + 1))
        case measure => omega
        case rel => exact ⟨k + 1, by omega, rfl, by go_num, by rw [any_take_succ hlt, HA.out, HX.out, HT.out, h1]; rfl, below_trans2 HB.out (by assumption)⟩
    · have hkl : k = xs.length := by omega
      subst hkl
      go_wp2_with fail
      go_ret
      refine ⟨-1, rfl, ?_, HB.out⟩
      have := HA.out
      rw [List.take_length] at this
      rw [this]; simp

set_option maxHeartbeats 400000 in
theorem containsQ_any (f : FuncId) (he : Enters f) (caps : Array Value) (w : World) (v : Value) (xs : List Int) (p : Int → Bool) (h : QS w v xs) (hl : xs.length ≤ 9223372036854775807) (hp : PredQ f caps w p) :
    Calls Try.prog 89 #[v, .func (.func f) #[] caps] w fun e w' => e = .returned (.bool (xs.any p)) ∧ Below w.heap.size w w' := by
  have hi := indexQ_any f he caps w v xs p h hl hp
  go_enter Try.func89, Try.ntmps89
  go_wp2_with (first | (refine hi.mono ?_; rintro e w1 ⟨n, rfl, hn, hb⟩; have hn := Lib.hid hn))
  go_ret
  exact ⟨rfl, by assumption⟩

theorem enters_right1 : Enters 88 := enters_of Try.func88 (by kernel_rfl) (by kernel_rfl)

set_option maxHeartbeats 400000 in
theorem right1_any (x : Int) (w : World) :
    Calls Try.prog 88 #[.int .i64 x] w fun e w' => e = .returned (.bool (clo x)) ∧ w = w' := by
  go_enter Try.func88, Try.ntmps88
  go_wp2
  all_goals
    go_ret
    refine ⟨retB ?_, rfl⟩
    rw [Bool.eq_iff_iff]; simp [clo] <;> omega

theorem pred_right (w : World) : PredQ 88 #[] w clo := fun x wx _ => (right1_any x wx).mono fun _ _ ⟨he, hw⟩ => ⟨he, hw ▸ Below.refl _ _⟩

def rightB (r c : Int) (xs : List Int) : Bool := decide (1 ≤ r ∧ r ≤ 8 ∧ 1 ≤ c ∧ c ≤ 8 ∧ (xs.length : Int) = r * c) && !xs.any clo

set_option maxRecDepth 100000 in
set_option maxHeartbeats 1000000 in
theorem right_any (w : World) (r c : Int) (v : Value) (xs : List Int) (h : QS w v xs) (hl : xs.length ≤ 9223372036854775807) :
    Calls Try.prog 32 #[.agg #[.int .i64 r, .int .i64 c, v]] w fun e w' => e = .returned (.bool (rightB r c xs)) ∧ Below w.heap.size w w' := by
  obtain ⟨ao, cap, hv, -⟩ := id h
  subst hv
  have H := Lib.hid h
  clear h
  obtain ⟨m, hm⟩ : ∃ m, r * c = m := ⟨_, rfl⟩
  have HM := Lib.hid hm
  have hbd : 1 ≤ r → r ≤ 8 → 1 ≤ c → c ≤ 8 → 0 ≤ m ∧ m ≤ 64 := by
    intro h1 h2 h3 h4
    have := mul_bd (a := r) (b := c) (m := 8) (n := 8) (by omega) h2 (by omega) h4
    rw [hm] at this; exact this
  have e7 : ∀ x y : Int, (x == y) = decide (x = y) := fun _ _ => rfl
  have e8 : ∀ x : Bool, (!x) = true ↔ x = false := by simp
  by_cases hall : 1 ≤ r ∧ r ≤ 8 ∧ 1 ≤ c ∧ c ≤ 8
  · obtain ⟨h1, h2, h3, h4⟩ := hall
    have hb := hbd h1 h2 h3 h4
    clear hbd
    go_enter Try.func32, Try.ntmps32
    go_wp2_with (first | (go_at_call 89; refine (containsQ_any 88 enters_right1 #[] _ _ xs clo (H.out.later (below1 _ _)) hl (pred_right _)).mono ?_; rintro e w1 ⟨rfl, hb1⟩))
    · go_ret
      have h5 : (xs.length : Int) = m := by assumption
      exact ⟨retB (by unfold rightB; rw [HM.out, decide_eq_true ⟨h1, h2, h3, h4, h5⟩, Bool.true_and]), below_trans2 (below1 _ _) hb1⟩
    · go_ret
      have h5 : ¬ (xs.length : Int) = m := by assumption
      exact ⟨retB (by unfold rightB; rw [HM.out, decide_eq_false (fun h => h5 h.2.2.2.2), Bool.false_and]), below1 _ _⟩
  · clear hbd
    have HN := Lib.hid hall
    clear hall
    go_enter Try.func32, Try.ntmps32
    go_wp2_with fail
    all_goals first | exact (HN.out ⟨by assumption, by assumption, by assumption, by assumption⟩).elim | skip
    all_goals
      go_ret
      exact ⟨retB (by unfold rightB; rw [decide_eq_false (fun h => HN.out ⟨h.1, h.2.1, h.2.2.1, h.2.2.2.1⟩), Bool.false_and]), below1 _ _⟩

end Go.Proofs.Ytijohedhbbddjaa
