/- The walks of quat.Norm, Conj, Right. -/
import Derived.Test.YtijohedhbbddjaaU4
import Derived.BigQuiet
namespace Go.Proofs.Ytijohedhbbddjaa
open Go.RowKit

def qnorm (p : Q4) : Int := fourQ p.a p.a false p.b p.b false p.c p.c false p.d p.d false
def qnormO (p : Q4) : Bool := fourO p.a p.a false p.b p.b false p.c p.c false p.d p.d false
def qconj (p : Q4) : Q4 := ⟨p.a, subQ 0 p.b, subQ 0 p.c, subQ 0 p.d⟩
def qright (p : Q4) : Bool := !(clo p.a || clo p.b || clo p.c || clo p.d)

theorem square_at (w : World) (fb qb : Nat) (I : Int) (i : Nat) (b : Bool) (x z : Int) (o : Bool) (hI : I = i) (hi : i < 4) (h : Fl w fb b) (hq : w.cell? ⟨qb, i, none⟩ = some (.int .i64 x)) (hqn : qb ≠ fb) (hz : trmQ x x false = z ∧ trmO x x false = o) :
    Calls Try.prog 101 #[.int .i64 I, .pointer (some ⟨fb, 0, none⟩), .pointer (some ⟨qb, 0, none⟩)] w (Flags fb w z (b || o)) := by
  subst hI
  have h1 : mulQ x x = z := by rw [← hz.1]; simp [trmQ]
  have h2 : mulO x x = o := by rw [← hz.2]; simp [trmO]
  rw [← h1, ← h2]
  exact square_any w fb qb i b x hi h hq hqn

set_option maxRecDepth 100000 in
set_option maxHeartbeats 1000000 in
theorem qnorm_any (w : World) (p : Q4) :
    Calls Try.prog 47 #[.agg #[.int .i64 p.a, .int .i64 p.b, .int .i64 p.c, .int .i64 p.d]] w fun e w' =>
      e = .returned (.tuple #[.int .i64 (qnorm p), .bool (qnormO p)]) ∧ Below w.heap.size w w' := by
  obtain ⟨y, hy⟩ : ∃ y, qnorm p = y := ⟨_, rfl⟩
  obtain ⟨o, ho⟩ : ∃ y, qnormO p = y := ⟨_, rfl⟩
  rw [hy, ho]
  have hys := And.intro hy ho
  unfold qnorm qnormO fourQ fourO at hys
  clear hy ho
  obtain ⟨z0, hz0⟩ : ∃ z, trmQ p.a p.a false = z := ⟨_, rfl⟩
  obtain ⟨t0, ht0⟩ : ∃ z, trmO p.a p.a false = z := ⟨_, rfl⟩
  obtain ⟨z1, hz1⟩ : ∃ z, trmQ p.b p.b false = z := ⟨_, rfl⟩
  obtain ⟨t1, ht1⟩ : ∃ z, trmO p.b p.b false = z := ⟨_, rfl⟩
  obtain ⟨z2, hz2⟩ : ∃ z, trmQ p.c p.c false = z := ⟨_, rfl⟩
  obtain ⟨t2, ht2⟩ : ∃ z, trmO p.c p.c false = z := ⟨_, rfl⟩
  obtain ⟨z3, hz3⟩ : ∃ z, trmQ p.d p.d false = z := ⟨_, rfl⟩
  obtain ⟨t3, ht3⟩ : ∃ z, trmO p.d p.d false = z := ⟨_, rfl⟩
  rw [hz0, ht0, hz1, ht1, hz2, ht2, hz3, ht3] at hys
  have HS := Lib.hid hys
  have HZ0 := Lib.hid (And.intro hz0 ht0)
  have HZ1 := Lib.hid (And.intro hz1 ht1)
  have HZ2 := Lib.hid (And.intro hz2 ht2)
  have HZ3 := Lib.hid (And.intro hz3 ht3)
  clear hys hz0 ht0 hz1 ht1 hz2 ht2 hz3 ht3
  obtain ⟨n, hn⟩ : ∃ n, w.heap.size = n := ⟨_, rfl⟩
  go_enter Try.func47, Try.ntmps47
  go_upto_region 3 with fail
  obtain ⟨W, hW⟩ : ∃ W, W = ((w.alloc (row4 p.a p.b p.c p.d)).alloc (.cells #[.bool false] 113)) := ⟨_, rfl⟩
  have hp : W.heap[n]? = some (row4 p.a p.b p.c p.d) := by rw [hW, heap_old _ _ _ (by simp; omega)]; exact heap_at _ _ _ hn.symm
  have hf0 : Hid (Fl W (n + 1) false) := by
    show _ = _
    rw [hW]; exact heap_at _ _ _ (by simp; omega)
  have hB : Hid (Below n w W) := by rw [hW, ← hn]; exact below2 _ _ _
  have hsz : n + 1 < W.heap.size := by rw [hW]; simp; omega
  unfold row4 at hW
  rw [← hW]
  clear hW
  have hpr := row4_cell hp
  have rp0 := cells_but (fb := n + 1) hpr.1 (show n ≠ n + 1 by omega)
  have rp1 := cells_but (fb := n + 1) hpr.2.1 (show n ≠ n + 1 by omega)
  have rp2 := cells_but (fb := n + 1) hpr.2.2.1 (show n ≠ n + 1 by omega)
  have rp3 := cells_but (fb := n + 1) hpr.2.2.2 (show n ≠ n + 1 by omega)
  clear hp hpr
  go_wp2_with (first | (go_at_call 99; refine (sum_any _ (n + 1) w4.heap.size (false || t0 || t1 || t2 || t3) z0 z1 z2 z3 (hf4.later (below1 _ _)) (heap_at _ _ _ rfl) (by have := hk4.size; omega)).mono ?_; rw [HS.out.1]; rintro e w5 ⟨rfl, hf5, hb5⟩; have hk5 : But (n + 1) W w5 := hk4.trans ((But.of_below (below1 _ _)).trans hb5); have hfc := hf5.cell) | (go_at_call 101; first | ((with_reducible refine (square_at _ (n + 1) n 0 0 false p.a z0 t0 ci0 cl0 hf0.out (rp0 _ (But.refl _ _)) (by omega) HZ0.out).mono ?_); rintro e w1 ⟨rfl, hf1, hb1⟩; have hk1 : But (n + 1) W w1 := hb1) | ((with_reducible refine (square_at _ (n + 1) n 1 1 (false || t0) p.b z1 t1 ci1 cl1 hf1 (rp1 _ hk1) (by omega) HZ1.out).mono ?_); rintro e w2 ⟨rfl, hf2, hb2⟩; have hk2 : But (n + 1) W w2 := hk1.trans hb2) | ((with_reducible refine (square_at _ (n + 1) n 2 2 (false || t0 || t1) p.c z2 t2 ci2 cl2 hf2 (rp2 _ hk2) (by omega) HZ2.out).mono ?_); rintro e w3 ⟨rfl, hf3, hb3⟩; have hk3 : But (n + 1) W w3 := hk2.trans hb3) | ((with_reducible refine (square_at _ (n + 1) n 3 3 (false || t0 || t1 || t2) p.d z3 t3 ci3 cl3 hf3 (rp3 _ hk3) (by omega) HZ3.out).mono ?_); rintro e w4 ⟨rfl, hf4, hb4⟩; have hk4 : But (n + 1) W w4 := hk3.trans hb4)))
  go_quiet (fail)
  go_wp2_with fail
  go_ret2
  refine ⟨ret2 rfl ?_, by rw [hn]; exact below_drewN' (hB.out.trans (hk5.below (by omega) (by omega))) _⟩
  rw [← HS.out.2]

theorem qidx0 (a b c d : Int) (w : World) : Sem.run Try.prog (Instr.index 56 (.agg #[.int .i64 a, .int .i64 b, .int .i64 c, .int .i64 d]) (.int .i64 0)) w = .ok (.int .i64 a) w := by kernel_rfl
theorem qidx1 (a b c d : Int) (w : World) : Sem.run Try.prog (Instr.index 56 (.agg #[.int .i64 a, .int .i64 b, .int .i64 c, .int .i64 d]) (.int .i64 1)) w = .ok (.int .i64 b) w := by kernel_rfl
theorem qidx2 (a b c d : Int) (w : World) : Sem.run Try.prog (Instr.index 56 (.agg #[.int .i64 a, .int .i64 b, .int .i64 c, .int .i64 d]) (.int .i64 2)) w = .ok (.int .i64 c) w := by kernel_rfl
theorem qidx3 (a b c d : Int) (w : World) : Sem.run Try.prog (Instr.index 56 (.agg #[.int .i64 a, .int .i64 b, .int .i64 c, .int .i64 d]) (.int .i64 3)) w = .ok (.int .i64 d) w := by kernel_rfl

set_option maxRecDepth 100000 in
set_option maxHeartbeats 1000000 in
theorem qright_any (w : World) (p : Q4) :
    Calls Try.prog 53 #[.agg #[.int .i64 p.a, .int .i64 p.b, .int .i64 p.c, .int .i64 p.d]] w fun e w' => e = .returned (.bool (qright p)) ∧ Below w.heap.size w w' := by
  obtain ⟨a, b, c, d⟩ := p
  show Calls _ _ #[.agg #[.int .i64 a, .int .i64 b, .int .i64 c, .int .i64 d]] _ _
  have i0 := qidx0 a b c d
  have i1 := qidx1 a b c d
  have i2 := qidx2 a b c d
  have i3 := qidx3 a b c d
  go_enter Try.func53, Try.ntmps53
  go_wp2_with fail
  refine wp_loop_rounds 5 ?_
  rw [rounds_succ]
  go_wp2_with fail
  all_goals first | (go_ret; exact ⟨retB (by simp [qright, clo]; omega), below1 _ _⟩) | skip
  rw [rounds_succ]
  go_wp2_with fail
  all_goals first | (go_ret; exact ⟨retB (by simp [qright, clo]; omega), below1 _ _⟩) | skip
  rw [rounds_succ]
  go_wp2_with fail
  all_goals first | (go_ret; exact ⟨retB (by simp [qright, clo]; omega), below1 _ _⟩) | skip
  rw [rounds_succ]
  go_wp2_with fail
  all_goals first | (go_ret; exact ⟨retB (by simp [qright, clo]; omega), below1 _ _⟩) | skip
  rw [rounds_succ]
  go_wp2_with fail
  all_goals (go_ret; exact ⟨retB (by simp [qright, clo]; omega), below1 _ _⟩)

end Go.Proofs.Ytijohedhbbddjaa
