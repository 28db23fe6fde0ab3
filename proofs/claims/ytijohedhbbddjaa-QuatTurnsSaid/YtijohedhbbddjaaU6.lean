/- The walks of quat.Conj and quat.Unit. -/
import Derived.Test.YtijohedhbbddjaaU5
namespace Go.Proofs.Ytijohedhbbddjaa
open Go.RowKit

theorem store4 {w : World} {g : Nat} {a b c d : Int} (hg : w.heap[g]? = some (row4 a b c d)) (x y z u : Int) : ((((w.setCell ⟨g, 0, none⟩ (.int .i64 x)).setCell ⟨g, 1, none⟩ (.int .i64 y)).setCell ⟨g, 2, none⟩ (.int .i64 z)).setCell ⟨g, 3, none⟩ (.int .i64 u)).heap[g]? = some (row4 x y z u) := by
  unfold row4 at hg ⊢
  exact heap_store4 _ _ _ _ _ _ _ _ _ _ _ hg
theorem below_set4 {B : Nat} {w w1 : World} {g : Nat} (h : Below B w w1) (hg : B ≤ g) (x y z u : Value) : Below B w ((((w1.setCell ⟨g, 0, none⟩ x).setCell ⟨g, 1, none⟩ y).setCell ⟨g, 2, none⟩ z).setCell ⟨g, 3, none⟩ u) :=
  (((h.setCell hg _).setCell hg _).setCell hg _).setCell hg _
theorem results_q4 {fn : Func} {p : Tmp} (h : fn.results = #[.cell p 56]) (tmps : Array Value) (w : World) (g : Nat) (a b c d : Int) (hp : tmps.getD p undef = .pointer (some ⟨g, 0, none⟩)) (hg : w.heap[g]? = some (row4 a b c d)) :
    (results fn tmps).run Try.prog w = .ok (.agg #[.int .i64 a, .int .i64 b, .int .i64 c, .int .i64 d]) w := by
  unfold row4 at hg
  exact results_row h tmps w g _ _ _ _ hp hg Try.underlying56 rfl (by kernel_rfl)
theorem results_q41 {fn : Func} {p u : Tmp} (h : fn.results = #[.cell p 56, .tmp u]) (tmps : Array Value) (w : World) (g : Nat) (a b c d : Int) (hp : tmps.getD p undef = .pointer (some ⟨g, 0, none⟩)) (hg : w.heap[g]? = some (row4 a b c d)) :
    (results fn tmps).run Try.prog w = .ok (.tuple #[.agg #[.int .i64 a, .int .i64 b, .int .i64 c, .int .i64 d], tmps.getD u undef]) w := by
  unfold row4 at hg
  exact results_row1 h tmps w g _ _ _ _ hp hg Try.underlying56 rfl (by kernel_rfl)

set_option maxRecDepth 100000 in
set_option maxHeartbeats 1000000 in
theorem qconj_any (w : World) (p : Q4) :
    Calls Try.prog 51 #[.agg #[.int .i64 p.a, .int .i64 p.b, .int .i64 p.c, .int .i64 p.d]] w fun e w' =>
      e = .returned (.agg #[.int .i64 (qconj p).a, .int .i64 (qconj p).b, .int .i64 (qconj p).c, .int .i64 (qconj p).d]) ∧ Below w.heap.size w w' := by
  unfold qconj
  obtain ⟨z0, hz0⟩ : ∃ z, subQ 0 p.b = z := ⟨_, rfl⟩
  obtain ⟨t0, ht0⟩ : ∃ z, subO 0 p.b = z := ⟨_, rfl⟩
  have HZ0 := Lib.hid (And.intro hz0 ht0)
  rw [hz0]
  clear hz0 ht0
  obtain ⟨z1, hz1⟩ : ∃ z, subQ 0 p.c = z := ⟨_, rfl⟩
  obtain ⟨t1, ht1⟩ : ∃ z, subO 0 p.c = z := ⟨_, rfl⟩
  have HZ1 := Lib.hid (And.intro hz1 ht1)
  rw [hz1]
  clear hz1 ht1
  obtain ⟨z2, hz2⟩ : ∃ z, subQ 0 p.d = z := ⟨_, rfl⟩
  obtain ⟨t2, ht2⟩ : ∃ z, subO 0 p.d = z := ⟨_, rfl⟩
  have HZ2 := Lib.hid (And.intro hz2 ht2)
  rw [hz2]
  clear hz2 ht2
  obtain ⟨n, hn⟩ : ∃ n, w.heap.size = n := ⟨_, rfl⟩
  go_enter Try.func51, Try.ntmps51
  go_upto_region 2 with fail
  obtain ⟨W, hW⟩ : ∃ W, W = (((w.alloc (row4 p.a p.b p.c p.d)).alloc (row4 0 0 0 0)).alloc (.cells #[.bool false] 113)) := ⟨_, rfl⟩
  have hp : W.heap[n]? = some (row4 p.a p.b p.c p.d) := by rw [hW, heap_old _ _ _ (by simp; omega), heap_old _ _ _ (by simp; omega)]; exact heap_at _ _ _ hn.symm
  have hr : W.heap[n + 1]? = some (row4 0 0 0 0) := by rw [hW, heap_old _ _ _ (by simp; omega)]; exact heap_at _ _ _ (by simp; omega)
  have hf0 : Hid (Fl W.drew (n + 1 + 1) false) := by
    show W.heap[_]? = _
    rw [hW]; exact heap_at _ _ _ (by simp; omega)
  have hB : Hid (Below n w W) := by rw [hW, ← hn]; exact below3 _ _ _ _
  have hsz : n + 1 + 1 < W.heap.size := by rw [hW]; simp; omega
  unfold row4 at hW
  rw [← hW]
  clear hW
  have hpr := row4_cell hp
  have HR := Lib.hid hr
  have rp0 := cells_but2 (f := (n + 1 + 1)) (o := (n + 1)) hpr.1 (show n ≠ (n + 1 + 1) by omega) (show n ≠ (n + 1) by omega)
  have rp1 := cells_but2 (f := (n + 1 + 1)) (o := (n + 1)) hpr.2.1 (show n ≠ (n + 1 + 1) by omega) (show n ≠ (n + 1) by omega)
  have rp2 := cells_but2 (f := (n + 1 + 1)) (o := (n + 1)) hpr.2.2.1 (show n ≠ (n + 1 + 1) by omega) (show n ≠ (n + 1) by omega)
  have rp3 := cells_but2 (f := (n + 1 + 1)) (o := (n + 1)) hpr.2.2.2 (show n ≠ (n + 1 + 1) by omega) (show n ≠ (n + 1) by omega)
  clear hp hpr hr
  first | (go_region_held3 (fun w' => But2 (n + 1 + 1) (n + 1) W w') (first | assumption | exact But2.of (but_drew _ _) | exact But2.of (by assumption) | exact ((((But2.of hk3).set _ _).set _ _).set _ _).set _ _) (first | (go_at_call 97; first | ((with_reducible refine (less_any _ (n + 1 + 1) false p.b hf0.out).mono ?_); rw [HZ0.out.1, HZ0.out.2]; rintro e w1 ⟨rfl, hf1, hb1⟩; have hk1 : But (n + 1 + 1) W w1 := (but_drew _ _).trans hb1) | ((with_reducible refine (less_any _ (n + 1 + 1) (false || t0) p.c hf1).mono ?_); rw [HZ1.out.1, HZ1.out.2]; rintro e w2 ⟨rfl, hf2, hb2⟩; have hk2 : But (n + 1 + 1) W w2 := (hk1).trans hb2) | ((with_reducible refine (less_any _ (n + 1 + 1) ((false || t0) || t1) p.d hf2).mono ?_); rw [HZ2.out.1, HZ2.out.2]; rintro e w3 ⟨rfl, hf3, hb3⟩; have hk3 : But (n + 1 + 1) W w3 := (hk2).trans hb3; have hor := hk3.row HR.out (show (n + 1) ≠ (n + 1 + 1) by omega); have hrc := row4_cell hor; have hrf := row4_frozen hor)))) | fail
  go_wp2_with fail
  refine bodyPost_ret (results_q4 rfl _ _ (n + 1) p.a z0 z1 z2 rfl (store4 hor _ _ _ _)) rfl ⟨rfl, ?_⟩
  rw [hn]
  exact below_set4 (hB.out.trans (hk3.below (by omega) (by omega))) (by omega) _ _ _ _

def qunit (p : Q4) : Q4 := if sqrtQ (qnorm p) = 0 then ⟨16777216, 0, 0, 0⟩ else ⟨divQ p.a (sqrtQ (qnorm p)), divQ p.b (sqrtQ (qnorm p)), divQ p.c (sqrtQ (qnorm p)), divQ p.d (sqrtQ (qnorm p))⟩
def qunitO (p : Q4) : Bool := if sqrtQ (qnorm p) = 0 then true else (((((qnormO p || sqrtO (qnorm p)) || divO p.a (sqrtQ (qnorm p))) || divO p.b (sqrtQ (qnorm p))) || divO p.c (sqrtQ (qnorm p))) || divO p.d (sqrtQ (qnorm p)))
/-- The blocks of a call of Unit. -/
structure InUnit (w : World) (n : Nat) (a b c d : Int) (f : Bool) (wr : World) : Prop where
  q : wr.heap[n]? = some (row4 a b c d)
  r : wr.heap[n + 1]? = some (row4 0 0 0 0)
  fl : Fl wr (n + 1 + 1) f
  below : Below n w wr
theorem InUnit.later {w : World} {n : Nat} {a b c d : Int} {f : Bool} {wr v : World} (h : InUnit w n a b c d f wr) (hb : Below wr.heap.size wr v) : InUnit w n a b c d f v :=
  ⟨block_later h.q hb, block_later h.r hb, h.fl.later hb, h.below.trans (hb.mono (by have := lt_of_block h.q; omega))⟩
theorem InUnit.turn {w : World} {n : Nat} {a b c d : Int} {f f' : Bool} {wr v : World} (h : InUnit w n a b c d f wr) (hb : But (n + 1 + 1) wr v) (hf : Fl v (n + 1 + 1) f') : InUnit w n a b c d f' v :=
  ⟨hb.row h.q (by omega), hb.row h.r (by omega), hf, h.below.trans (hb.below (by omega) (by have := lt_of_block h.q; omega))⟩
theorem InUnit.set0 {w : World} {n : Nat} {a b c d : Int} {f : Bool} {wr : World} (h : InUnit w n a b c d f wr) (x : Int) : InUnit w n x b c d f (wr.setCell ⟨n, 0, none⟩ (.int .i64 x)) :=
  ⟨heap_setCell_same _ _ 0 _ _ (.int .i64 x) h.q, (Below.heap_setCell _ _ _ _ (by show n + 1 ≠ n; omega)).trans h.r, (Below.heap_setCell _ _ _ _ (by show n + 1 + 1 ≠ n; omega)).trans h.fl, h.below.setCell (Nat.le_refl n) _⟩
theorem InUnit.set1 {w : World} {n : Nat} {a b c d : Int} {f : Bool} {wr : World} (h : InUnit w n a b c d f wr) (x : Int) : InUnit w n a x c d f (wr.setCell ⟨n, 1, none⟩ (.int .i64 x)) :=
  ⟨heap_setCell_same _ _ 1 _ _ (.int .i64 x) h.q, (Below.heap_setCell _ _ _ _ (by show n + 1 ≠ n; omega)).trans h.r, (Below.heap_setCell _ _ _ _ (by show n + 1 + 1 ≠ n; omega)).trans h.fl, h.below.setCell (Nat.le_refl n) _⟩
theorem InUnit.set2 {w : World} {n : Nat} {a b c d : Int} {f : Bool} {wr : World} (h : InUnit w n a b c d f wr) (x : Int) : InUnit w n a b x d f (wr.setCell ⟨n, 2, none⟩ (.int .i64 x)) :=
  ⟨heap_setCell_same _ _ 2 _ _ (.int .i64 x) h.q, (Below.heap_setCell _ _ _ _ (by show n + 1 ≠ n; omega)).trans h.r, (Below.heap_setCell _ _ _ _ (by show n + 1 + 1 ≠ n; omega)).trans h.fl, h.below.setCell (Nat.le_refl n) _⟩
theorem InUnit.set3 {w : World} {n : Nat} {a b c d : Int} {f : Bool} {wr : World} (h : InUnit w n a b c d f wr) (x : Int) : InUnit w n a b c x f (wr.setCell ⟨n, 3, none⟩ (.int .i64 x)) :=
  ⟨heap_setCell_same _ _ 3 _ _ (.int .i64 x) h.q, (Below.heap_setCell _ _ _ _ (by show n + 1 ≠ n; omega)).trans h.r, (Below.heap_setCell _ _ _ _ (by show n + 1 + 1 ≠ n; omega)).trans h.fl, h.below.setCell (Nat.le_refl n) _⟩

set_option maxRecDepth 100000 in
set_option maxHeartbeats 2000000 in
theorem qunit_any (w : World) (p : Q4) :
    Calls Try.prog 49 #[.agg #[.int .i64 p.a, .int .i64 p.b, .int .i64 p.c, .int .i64 p.d]] w fun e w' =>
      e = .returned (.tuple #[.agg #[.int .i64 (qunit p).a, .int .i64 (qunit p).b, .int .i64 (qunit p).c, .int .i64 (qunit p).d], .bool (qunitO p)]) ∧ Below w.heap.size w w' := by
  have hN := fun w => qnorm_any w p
  obtain ⟨s, hs⟩ : ∃ s, sqrtQ (qnorm p) = s := ⟨_, rfl⟩
  obtain ⟨so, hso⟩ : ∃ s, sqrtO (qnorm p) = s := ⟨_, rfl⟩
  have hS := fun w => sqrt_all (qnorm p) w
  have hU : qunit p = if s = 0 then ⟨16777216, 0, 0, 0⟩ else ⟨divQ p.a s, divQ p.b s, divQ p.c s, divQ p.d s⟩ := by unfold qunit; rw [hs]
  have hUO : qunitO p = if s = 0 then true else (((((qnormO p || so) || divO p.a s) || divO p.b s) || divO p.c s) || divO p.d s) := by unfold qunitO; rw [hs, hso]
  rw [hs, hso] at hS
  obtain ⟨m, hm⟩ : ∃ m, qnorm p = m := ⟨_, rfl⟩
  obtain ⟨mo, hmo⟩ : ∃ m, qnormO p = m := ⟨_, rfl⟩
  rw [hmo] at hUO
  rw [hm, hmo] at hN
  rw [hm] at hS
  have HN : Hid (∀ w, Calls Try.prog 47 #[.agg #[.int .i64 p.a, .int .i64 p.b, .int .i64 p.c, .int .i64 p.d]] w fun e w' => e = .returned (.tuple #[.int .i64 m, .bool mo]) ∧ Below w.heap.size w w') := hN
  have HSq : Hid (∀ w, Calls Try.prog 26 #[.int .i64 m] w fun e w' => e = .returned (.tuple #[.int .i64 s, .bool so]) ∧ w = w') := hS
  clear hs hso hm hmo hN hS
  obtain ⟨n, hn⟩ : ∃ n, w.heap.size = n := ⟨_, rfl⟩
  obtain ⟨a, b, c, d⟩ := p
  by_cases h0 : s = 0
  · rw [if_pos h0] at hU hUO
    rw [hU, hUO]
    clear hU hUO
    subst h0
    go_enter Try.func49, Try.ntmps49
    go_upto_region 2 with fail
    obtain ⟨W, hW⟩ : ∃ W, W = (((w.alloc (row4 a b c d)).alloc (row4 0 0 0 0)).alloc (.cells #[.bool false] 113)) := ⟨_, rfl⟩
    have HI : Hid (InUnit w n a b c d false W) := by
      rw [hW]
      refine (show InUnit _ _ _ _ _ _ _ _ from ⟨?_, ?_, ?_, ?_⟩)
      · rw [heap_old _ _ _ (by simp; omega), heap_old _ _ _ (by simp; omega)]; exact heap_at _ _ _ hn.symm
      · rw [heap_old _ _ _ (by simp; omega)]; exact heap_at _ _ _ (by simp; omega)
      · exact heap_at _ _ _ (by simp; omega)
      · rw [← hn]; exact below3 _ _ _ _
    unfold row4 at hW
    rw [← hW]
    clear hW
    have hq := row4_cell HI.out.q
    go_upto_region 3 with (first | (go_at_call 47; refine (HN.out _).mono ?_; rintro e v1 ⟨rfl, hd1⟩; have HI1 := Lib.hid (HI.out.later hd1)) | (go_at_call 96; refine (one_any _ (n + 1 + 1) false mo m HI1.out.fl).mono ?_; rintro e v2 ⟨rfl, hf2, hb2⟩; have HI2 := Lib.hid (HI1.out.turn hb2 hf2); clear hf2 hb2))
    clear hq
    go_upto_region 4 with (first | (go_at_call 26; refine (HSq.out _).mono ?_; rintro e v ⟨rfl, rfl⟩) | (go_at_call 96; refine (one_any _ (n + 1 + 1) (false || mo) so 0 HI2.out.fl).mono ?_; rintro e v3 ⟨rfl, hf3, hb3⟩; have HI3 := Lib.hid (HI2.out.turn hb3 hf3); clear hf3 hb3))
    have hr := row4_cell HI3.out.r
    have hz := row4_frozen HI3.out.r
    go_wp2_with fail
    refine bodyPost_ret (results_q41 rfl _ _ (n + 1) 16777216 0 0 0 rfl (store4 HI3.out.r _ _ _ _)) rfl ⟨rfl, ?_⟩
    rw [hn]
    exact below_set4 HI3.out.below (by omega) _ _ _ _
  · rw [if_neg h0] at hU hUO
    rw [hU, hUO]
    clear hU hUO
    obtain ⟨z0, hz0⟩ : ∃ z, divQ a s = z := ⟨_, rfl⟩
    obtain ⟨t0, ht0⟩ : ∃ z, divO a s = z := ⟨_, rfl⟩
    have HZ0 := Lib.hid (And.intro hz0 ht0)
    
    obtain ⟨z1, hz1⟩ : ∃ z, divQ b s = z := ⟨_, rfl⟩
    obtain ⟨t1, ht1⟩ : ∃ z, divO b s = z := ⟨_, rfl⟩
    have HZ1 := Lib.hid (And.intro hz1 ht1)
    
    obtain ⟨z2, hz2⟩ : ∃ z, divQ c s = z := ⟨_, rfl⟩
    obtain ⟨t2, ht2⟩ : ∃ z, divO c s = z := ⟨_, rfl⟩
    have HZ2 := Lib.hid (And.intro hz2 ht2)
    
    obtain ⟨z3, hz3⟩ : ∃ z, divQ d s = z := ⟨_, rfl⟩
    obtain ⟨t3, ht3⟩ : ∃ z, divO d s = z := ⟨_, rfl⟩
    have HZ3 := Lib.hid (And.intro hz3 ht3)
    
    simp only [hz0, hz1, hz2, hz3, ht0, ht1, ht2, ht3]
    clear hz0 hz1 hz2 hz3 ht0 ht1 ht2 ht3
    have e7 : (s == 0) = false := by simp [h0]
    go_enter Try.func49, Try.ntmps49
    go_upto_region 2 with fail
    obtain ⟨W, hW⟩ : ∃ W, W = (((w.alloc (row4 a b c d)).alloc (row4 0 0 0 0)).alloc (.cells #[.bool false] 113)) := ⟨_, rfl⟩
    have HI : Hid (InUnit w n a b c d false W) := by
      rw [hW]
      refine (show InUnit _ _ _ _ _ _ _ _ from ⟨?_, ?_, ?_, ?_⟩)
      · rw [heap_old _ _ _ (by simp; omega), heap_old _ _ _ (by simp; omega)]; exact heap_at _ _ _ hn.symm
      · rw [heap_old _ _ _ (by simp; omega)]; exact heap_at _ _ _ (by simp; omega)
      · exact heap_at _ _ _ (by simp; omega)
      · rw [← hn]; exact below3 _ _ _ _
    unfold row4 at hW
    rw [← hW]
    clear hW
    have hq := row4_cell HI.out.q
    go_upto_region 3 with (first | (go_at_call 47; refine (HN.out _).mono ?_; rintro e v1 ⟨rfl, hd1⟩; have HI1 := Lib.hid (HI.out.later hd1)) | (go_at_call 96; refine (one_any _ (n + 1 + 1) false mo m HI1.out.fl).mono ?_; rintro e v2 ⟨rfl, hf2, hb2⟩; have HI2 := Lib.hid (HI1.out.turn hb2 hf2); clear hf2 hb2))
    clear hq
    go_upto_region 4 with (first | (go_at_call 26; refine (HSq.out _).mono ?_; rintro e v ⟨rfl, rfl⟩) | (go_at_call 96; refine (one_any _ (n + 1 + 1) (false || mo) so s HI2.out.fl).mono ?_; rintro e v3 ⟨rfl, hf3, hb3⟩; have HI3 := Lib.hid (HI2.out.turn hb3 hf3); clear hf3 hb3))
    have hq := row4_cell HI3.out.q
    have i0 := qidx0 a b c d
    have i1 := qidx1 a b c d
    have i2 := qidx2 a b c d
    have i3 := qidx3 a b c d
    go_wp2_with fail
    clear hq
    refine wp_loop_rounds 5 ?_
    rw [rounds_succ]
    go_wp2_with (first | (go_at_call 41; refine (div_any a s _).mono ?_; rw [HZ0.out.1, HZ0.out.2]; rintro e x0 ⟨rfl, hd⟩; have HJ0 := Lib.hid (HI3.out.later hd); clear hd) | (go_at_call 96; refine (one_any _ (n + 1 + 1) ((false || mo) || so) t0 z0 HJ0.out.fl).mono ?_; rintro e y0 ⟨rfl, hf, hb⟩; have HK0 := Lib.hid (HJ0.out.turn hb hf); clear hf hb; have hqc0 := row4_cell HK0.out.q; have hqf0 := row4_frozen HK0.out.q))
    obtain ⟨Y0, hY0⟩ : ∃ Y, Y = y0.setCell ⟨n, 0, none⟩ (.int .i64 z0) := ⟨_, rfl⟩
    rw [← hY0]
    have HL0 : Hid (InUnit w n z0 b c d (((false || mo) || so) || t0) Y0) := by rw [hY0]; exact HK0.out.set0 z0
    clear hY0 hqc0 hqf0
    rw [rounds_succ]
    go_wp2_with (first | (go_at_call 41; refine (div_any b s _).mono ?_; rw [HZ1.out.1, HZ1.out.2]; rintro e x1 ⟨rfl, hd⟩; have HJ1 := Lib.hid (HL0.out.later hd); clear hd) | (go_at_call 96; refine (one_any _ (n + 1 + 1) (((false || mo) || so) || t0) t1 z1 HJ1.out.fl).mono ?_; rintro e y1 ⟨rfl, hf, hb⟩; have HK1 := Lib.hid (HJ1.out.turn hb hf); clear hf hb; have hqc1 := row4_cell HK1.out.q; have hqf1 := row4_frozen HK1.out.q))
    obtain ⟨Y1, hY1⟩ : ∃ Y, Y = y1.setCell ⟨n, 1, none⟩ (.int .i64 z1) := ⟨_, rfl⟩
    rw [← hY1]
    have HL1 : Hid (InUnit w n z0 z1 c d ((((false || mo) || so) || t0) || t1) Y1) := by rw [hY1]; exact HK1.out.set1 z1
    clear hY1 hqc1 hqf1
    rw [rounds_succ]
    go_wp2_with (first | (go_at_call 41; refine (div_any c s _).mono ?_; rw [HZ2.out.1, HZ2.out.2]; rintro e x2 ⟨rfl, hd⟩; have HJ2 := Lib.hid (HL1.out.later hd); clear hd) | (go_at_call 96; refine (one_any _ (n + 1 + 1) ((((false || mo) || so) || t0) || t1) t2 z2 HJ2.out.fl).mono ?_; rintro e y2 ⟨rfl, hf, hb⟩; have HK2 := Lib.hid (HJ2.out.turn hb hf); clear hf hb; have hqc2 := row4_cell HK2.out.q; have hqf2 := row4_frozen HK2.out.q))
    obtain ⟨Y2, hY2⟩ : ∃ Y, Y = y2.setCell ⟨n, 2, none⟩ (.int .i64 z2) := ⟨_, rfl⟩
    rw [← hY2]
    have HL2 : Hid (InUnit w n z0 z1 z2 d (((((false || mo) || so) || t0) || t1) || t2) Y2) := by rw [hY2]; exact HK2.out.set2 z2
    clear hY2 hqc2 hqf2
    rw [rounds_succ]
    go_wp2_with (first | (go_at_call 41; refine (div_any d s _).mono ?_; rw [HZ3.out.1, HZ3.out.2]; rintro e x3 ⟨rfl, hd⟩; have HJ3 := Lib.hid (HL2.out.later hd); clear hd) | (go_at_call 96; refine (one_any _ (n + 1 + 1) (((((false || mo) || so) || t0) || t1) || t2) t3 z3 HJ3.out.fl).mono ?_; rintro e y3 ⟨rfl, hf, hb⟩; have HK3 := Lib.hid (HJ3.out.turn hb hf); clear hf hb; have hqc3 := row4_cell HK3.out.q; have hqf3 := row4_frozen HK3.out.q))
    obtain ⟨Y3, hY3⟩ : ∃ Y, Y = y3.setCell ⟨n, 3, none⟩ (.int .i64 z3) := ⟨_, rfl⟩
    rw [← hY3]
    have HL3 : Hid (InUnit w n z0 z1 z2 z3 ((((((false || mo) || so) || t0) || t1) || t2) || t3) Y3) := by rw [hY3]; exact HK3.out.set3 z3
    clear hY3 hqc3 hqf3
    rw [rounds_succ]
    have hq := row4_cell HL3.out.q
    have hr := row4_cell HL3.out.r
    have hrf := row4_frozen HL3.out.r
    have hfc := HL3.out.fl.cell
    go_wp2_with fail
    go_region
    go_wp2_with fail
    refine bodyPost_ret (results_q41 rfl _ _ (n + 1) z0 z1 z2 z3 rfl (by have h := store4 HL3.out.r z0 z1 z2 z3; exact h)) rfl ⟨?_, ?_⟩
    · simp
    · rw [hn]
      exact (below_set4 HL3.out.below (by omega) _ _ _ _).drew

end Go.Proofs.Ytijohedhbbddjaa
