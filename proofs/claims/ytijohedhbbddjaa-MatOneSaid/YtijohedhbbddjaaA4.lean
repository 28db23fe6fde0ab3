/- The walks of layer 3 (mat): Mul; each, Add, Sub, Even. -/
import Derived.Test.YtijohedhbbddjaaA3
namespace Go.Proofs.Ytijohedhbbddjaa
open Go.RowKit

def dotL (xs ys : List Int) (m c : Nat) (i k : Nat) : Int × Bool := dotS (fun j => xs.getD (i * m + j) 0) (fun j => ys.getD (j * c + k) 0) m
def mulL (xs ys : List Int) (r m c : Nat) : List Int := tab (fun i k => (dotL xs ys m c i k).1) c (r * c)
def mulLO (xs ys : List Int) (r m c : Nat) : Bool := tabO (fun i k => (dotL xs ys m c i k).2) c (r * c)

theorem inB_at {w : World} {r c : Nat} {v : Value} {xs : List Int} (h : MV w r c v xs) (t : TypeId) {w' : World} (hb : Below (w.alloc (.cells #[.int .i64 r, .int .i64 c, v] t)).heap.size (w.alloc (.cells #[.int .i64 r, .int .i64 c, v] t)) w') : InB w' w.heap.size r c v xs :=
  (inB_new h t).later hb
theorem inB_at1 {w : World} {r c : Nat} {v : Value} {xs : List Int} (h : MV w r c v xs) (t : TypeId) (o : Obj) {w' : World} (hb : Below ((w.alloc o).alloc (.cells #[.int .i64 r, .int .i64 c, v] t)).heap.size ((w.alloc o).alloc (.cells #[.int .i64 r, .int .i64 c, v] t)) w') : InB w' (w.heap.size + 1) r c v xs := by
  have := inB_at (h.later (below1 w o)) t hb
  simpa using this

set_option maxRecDepth 100000 in
set_option maxHeartbeats 1000000 in
theorem mmul_any (w : World) (r m c : Nat) (v v' : Value) (xs ys : List Int) (h : MV w r m v xs) (h' : MV w m c v' ys) :
    Calls Try.prog 20 #[.agg #[.int .i64 r, .int .i64 m, v], .agg #[.int .i64 m, .int .i64 c, v']] w fun e w' =>
      ∃ ao cap, e = .returned (.tuple #[.agg #[.int .i64 r, .int .i64 c, .slice ao (r * c) cap], .bool (mulLO xs ys r m c), .int .i64 0]) ∧
        w'.ownsRow w.heap.size 25 1 (.slice ao (r * c) cap) (r * c) ((mulL xs ys r m c).map (Value.int .i64)) ∧ Below w.heap.size w w' := by
  obtain ⟨ao, cap, hv, -⟩ := id h.qs
  obtain ⟨bo, bcap, hv', -⟩ := id h'.qs
  subst hv
  subst hv'
  have H := Lib.hid h
  have H' := Lib.hid h'
  clear h h'
  go_enter Try.func20, Try.ntmps20
  go_wp2_with (first | (go_at_call 69; refine (made_any 78 _ _ r c _ _ H.out.hr H'.out.hc enters_mul (mul_tells _ w.heap.size (w.heap.size + 1) r m c _ _ xs ys H.out.hr H.out.hc H'.out.hc (inB_at H.out _ (below2 _ _ _)) (inB_at1 H'.out _ _ (below1 _ _)))).mono ?_; rintro e w2 ⟨ao', cap', rfl, hown, hb⟩; have hR := block_later (heap_at _ _ (w.heap.size + 1 + 1) (by simp)) hb; obtain ⟨hc, hf⟩ := bcell hb; have hz : w.heap.size + 1 + 1 < w2.heap.size := (by have := hb.size; simp at this; omega)))
  have h3 := heap_store3 _ _ _ _ _ (.int .i64 r) (.int .i64 c) (.slice ao' (r * c) cap') _ hR
  refine bodyPost_ret (results_row2 rfl _ _ _ _ _ _ _ rfl ((heap_old _ _ _ (by simpa using hz)).trans h3) Try.underlying24 rfl (by kernel_rfl)) rfl ⟨ao', cap', rfl, ?_, ?_⟩
  · exact ownsRow_base ((owns_set3 hown (by simp) _ _ _).alloc _) (by simp; omega)
  · exact (below_set3 (below_trans2 (below3 _ _ _ _) hb) (by omega) _ _ _).alloc (by simp; omega) _

set_option maxRecDepth 100000 in
set_option maxHeartbeats 1000000 in
theorem mmul_no (w : World) (r m m' c : Int) (v v' : Value) (hne : m ≠ m') :
    Calls Try.prog 20 #[.agg #[.int .i64 r, .int .i64 m, v], .agg #[.int .i64 m', .int .i64 c, v']] w fun e w' =>
      e = .returned (.tuple #[.agg #[.int .i64 0, .int .i64 0, .slice none 0 0], .bool false, .int .i64 9]) ∧ Below w.heap.size w w' := by
  have hne' : (m != m') = true := by simpa using hne
  go_enter Try.func20, Try.ntmps20
  go_wp2_with fail
  refine bodyPost_ret (results_row2 rfl _ _ _ _ _ _ _ rfl (heap_at _ _ _ (by simp)) Try.underlying24 rfl (by kernel_rfl)) rfl ⟨rfl, below3 _ _ _ _⟩

/-- What a function does with two numbers at a place. -/
def Does (f : FuncId) (xs ys : List Int) (g : Int → Int → Int) (o : Int → Int → Bool) : Prop :=
  ∀ (n : Nat) (w : World), n < xs.length → Calls Try.prog f #[.int .i64 (xs.getD n 0), .int .i64 (ys.getD n 0)] w fun e w' => e = .returned (.tuple #[.int .i64 (g (xs.getD n 0) (ys.getD n 0)), .bool (o (xs.getD n 0) (ys.getD n 0))]) ∧ Below w.heap.size w w'

theorem enters_each : Enters 113 := enters_of Try.func113 (by kernel_rfl) (by kernel_rfl)

set_option maxRecDepth 100000 in
set_option maxHeartbeats 400000 in
theorem each_tells (f : FuncId) (he : Enters f) (w : World) (b0 b1 b2 r c : Nat) (v v' : Value) (xs ys : List Int) (g : Int → Int → Int) (o : Int → Int → Bool) (hr : r ≤ 8) (hc : c ≤ 8) (hF : w.cell? ⟨b0, 0, none⟩ = some (.func (.func f) #[] #[]))
    (hA : InB w b1 r c v xs) (hB : InB w b2 r c v' ys) (hd : Does f xs ys g o) :
    Tells 113 #[.pointer (some ⟨b0, 0, none⟩), .pointer (some ⟨b1, 0, none⟩), .pointer (some ⟨b2, 0, none⟩)] w r c (fun i k => g (xs.getD (i * c + k) 0) (ys.getD (i * c + k) 0)) (fun i k => o (xs.getD (i * c + k) 0) (ys.getD (i * c + k) 0)) := by
  intro i k wx hi hk hb
  have hA := hA.later hb
  have hB := hB.later hb
  have hF := cell_later hb hF
  clear hb
  have HAT := Lib.hid (at_later hA hr hc hi hk)
  have HBT := Lib.hid (at_later hB hr hc hi hk)
  have HD := Lib.hid (fun w => hd (i * c + k) w (by rw [hA.len]; exact idx_lt hi hk))
  obtain ⟨a0, a1, a2, aqs, alen⟩ := hA
  obtain ⟨b0', b1', b2', bqs, blen⟩ := hB
  obtain ⟨ao, acap, hv, -⟩ := aqs
  obtain ⟨bo, bcap, hv', -⟩ := bqs
  subst hv
  subst hv'
  clear alen blen hd
  have q0 := cells_later hF
  have r0 := cells_later a0
  have r1 := cells_later a1
  have r2 := cells_later a2
  have s0 := cells_later b0'
  have s1 := cells_later b1'
  have s2 := cells_later b2'
  clear a0 a1 a2 b0' b1' b2' hF
  have he' : ∀ (args : Array Value) (w : World), (callFunc f args).run Try.prog w = .ok (.enter f args) w := he
  obtain ⟨x, hx⟩ : ∃ x, xs.getD (i * c + k) 0 = x := ⟨_, rfl⟩
  obtain ⟨y, hy⟩ : ∃ y, ys.getD (i * c + k) 0 = y := ⟨_, rfl⟩
  simp only [hx, hy] at HAT HBT HD ⊢
  clear hx hy he
  go_enter Try.func113, Try.ntmps113
  go_wp2_with fail
  go_region_held3 (fun w' => Below wx.heap.size wx w')
    (first | exact below_drew _ | exact below_tr (by assumption) (by assumption) | exact below_tr2 (by assumption) (by assumption))
    (first | (go_at_call 72; (with_reducible refine (HAT.out _ (by assumption)).mono ?_); rintro e w1 ⟨rfl, hb1⟩) | (go_at_call 72; (with_reducible refine (HBT.out _ (by assumption)).mono ?_); rintro e w1 ⟨rfl, hb1⟩) | ((with_reducible refine (HD.out _).mono ?_); rintro e w2 ⟨rfl, hb2⟩))
  go_wp2
  go_ret2
  exact ⟨rfl, by assumption⟩

end Go.Proofs.Ytijohedhbbddjaa
