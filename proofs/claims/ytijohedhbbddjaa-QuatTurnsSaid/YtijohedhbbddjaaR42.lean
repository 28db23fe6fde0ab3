/- The walks of the reference's quaternions: Mul, Conj, Right, Norm, Unit. -/
import Derived.Test.YtijohedhbbddjaaR41
namespace Go.Proofs.Ytijohedhbbddjaa
open Go.RowKit

theorem frozen_later {w : World} {g : Nat} {a b c d : Int} (h : w.heap[g]? = some (row4 a b c d)) : ∀ w', Below w.heap.size w w' → ∀ i, w'.frozen? ⟨g, i, none⟩ = false := fun _ hb i => row4_frozen (block_later h hb) i
theorem cells_later4 {w : World} {g : Nat} {a b c d : Int} (h : w.heap[g]? = some (row4 a b c d)) :
    (∀ w', Below w.heap.size w w' → w'.cell? ⟨g, 0, none⟩ = some (.int .i64 a)) ∧ (∀ w', Below w.heap.size w w' → w'.cell? ⟨g, 1, none⟩ = some (.int .i64 b)) ∧ (∀ w', Below w.heap.size w w' → w'.cell? ⟨g, 2, none⟩ = some (.int .i64 c)) ∧ (∀ w', Below w.heap.size w w' → w'.cell? ⟨g, 3, none⟩ = some (.int .i64 d)) :=
  ⟨fun _ hb => (row4_cell (block_later h hb)).1, fun _ hb => (row4_cell (block_later h hb)).2.1, fun _ hb => (row4_cell (block_later h hb)).2.2.1, fun _ hb => (row4_cell (block_later h hb)).2.2.2⟩

set_option maxRecDepth 100000 in
set_option maxHeartbeats 2000000 in
theorem rqmul_any (w : World) (p q : Q4) :
    Calls Try.prog 46 #[.agg #[.int .i64 p.a, .int .i64 p.b, .int .i64 p.c, .int .i64 p.d], .agg #[.int .i64 q.a, .int .i64 q.b, .int .i64 q.c, .int .i64 q.d]] w fun e w' =>
      e = .returned (.tuple #[.agg #[.int .i64 (qmul p q).a, .int .i64 (qmul p q).b, .int .i64 (qmul p q).c, .int .i64 (qmul p q).d], .bool (qmulO p q)]) ∧ Below w.heap.size w w' := by
  obtain ⟨y0, hy0⟩ : ∃ y, fourQ p.a q.a false p.b q.b true p.c q.c true p.d q.d true = y := ⟨_, rfl⟩
  obtain ⟨o0, ho0⟩ : ∃ y, fourO p.a q.a false p.b q.b true p.c q.c true p.d q.d true = y := ⟨_, rfl⟩
  have HY0 := Lib.hid (And.intro hy0 ho0)
  obtain ⟨y1, hy1⟩ : ∃ y, fourQ p.a q.b false p.b q.a false p.c q.d false p.d q.c true = y := ⟨_, rfl⟩
  obtain ⟨o1, ho1⟩ : ∃ y, fourO p.a q.b false p.b q.a false p.c q.d false p.d q.c true = y := ⟨_, rfl⟩
  have HY1 := Lib.hid (And.intro hy1 ho1)
  obtain ⟨y2, hy2⟩ : ∃ y, fourQ p.a q.c false p.b q.d true p.c q.a false p.d q.b false = y := ⟨_, rfl⟩
  obtain ⟨o2, ho2⟩ : ∃ y, fourO p.a q.c false p.b q.d true p.c q.a false p.d q.b false = y := ⟨_, rfl⟩
  have HY2 := Lib.hid (And.intro hy2 ho2)
  obtain ⟨y3, hy3⟩ : ∃ y, fourQ p.a q.d false p.b q.c false p.c q.b true p.d q.a false = y := ⟨_, rfl⟩
  obtain ⟨o3, ho3⟩ : ∃ y, fourO p.a q.d false p.b q.c false p.c q.b true p.d q.a false = y := ⟨_, rfl⟩
  have HY3 := Lib.hid (And.intro hy3 ho3)
  unfold qmul qmulO
  rw [hy0, ho0, hy1, ho1, hy2, ho2, hy3, ho3]
  clear hy0 ho0 hy1 ho1 hy2 ho2 hy3 ho3
  obtain ⟨n, hn⟩ : ∃ n, w.heap.size = n := ⟨_, rfl⟩
  obtain ⟨pa, pb, pc, pd⟩ := p
  obtain ⟨qa, qb, qc, qd⟩ := q
  go_enter Try.func46, Try.ntmps46
  go_upto_region 1 with fail
  obtain ⟨W, hW⟩ : ∃ W, W = (((w.alloc (row4 pa pb pc pd)).alloc (row4 qa qb qc qd)).alloc (row4 0 0 0 0)) := ⟨_, rfl⟩
  have hp : W.heap[n]? = some (row4 pa pb pc pd) := by rw [hW, heap_old _ _ _ (by simp; omega), heap_old _ _ _ (by simp; omega)]; exact heap_at _ _ _ hn.symm
  have hq : W.heap[n + 1]? = some (row4 qa qb qc qd) := by rw [hW, heap_old _ _ _ (by simp; omega)]; exact heap_at _ _ _ (by simp; omega)
  have hr : W.heap[n + 1 + 1]? = some (row4 0 0 0 0) := by rw [hW]; exact heap_at _ _ _ (by simp; omega)
  have hB : Hid (Below n w W) := by rw [hW, ← hn]; exact below3 _ _ _ _
  have hsz : W.heap.size = n + 1 + 1 + 1 := by rw [hW]; simp; omega
  unfold row4 at hW
  rw [← hW]
  clear hW
  have rp := row4_cell hp
  have HP := Lib.hid hp
  have HR := Lib.hid hr
  clear hp
  go_upto_region 2 with fail
  obtain ⟨V, hV⟩ : ∃ V, V = W.alloc (.cells #[.int .i64 pa, .int .i64 pb, .int .i64 pc, .int .i64 pd] 55) := ⟨_, rfl⟩
  have hbV : Below W.heap.size W V := by rw [hV]; exact below1 _ _
  have rq := cells_later4 (block_later hq hbV)
  have rr := cells_later4 (block_later hr hbV)
  have rf := frozen_later (block_later hr hbV)
  have l0 := cells_later (w := V) (a := ⟨n + 1 + 1 + 1, 0, none⟩) (v := .int .i64 pa) (by rw [hV, ← hsz]; simp [go_sem])
  have l1 := cells_later (w := V) (a := ⟨n + 1 + 1 + 1, 1, none⟩) (v := .int .i64 pb) (by rw [hV, ← hsz]; simp [go_sem])
  have l2 := cells_later (w := V) (a := ⟨n + 1 + 1 + 1, 2, none⟩) (v := .int .i64 pc) (by rw [hV, ← hsz]; simp [go_sem])
  have l3 := cells_later (w := V) (a := ⟨n + 1 + 1 + 1, 3, none⟩) (v := .int .i64 pd) (by rw [hV, ← hsz]; simp [go_sem])
  have HBV : Hid (Below W.heap.size W V) := hbV
  rw [← hV]
  clear hV hbV rp hq hr
  have hk0 := Below.refl V.heap.size V
  go_wp2_with (go_at_call 100; first | ((with_reducible refine (rfour_any _ pa pb pc pd qa qb qc qd false true true true).mono ?_); rw [HY0.out.1, HY0.out.2]; rintro e v0 ⟨rfl, hd0⟩; have hk1 := below_trans2 hk0 hd0) | ((with_reducible refine (rfour_any _ pa pb pc pd qb qa qd qc false false false true).mono ?_); rw [HY1.out.1, HY1.out.2]; rintro e v1 ⟨rfl, hd1⟩; have hk2 := below_trans2 hk1 hd1) | ((with_reducible refine (rfour_any _ pa pb pc pd qc qd qa qb false true false false).mono ?_); rw [HY2.out.1, HY2.out.2]; rintro e v2 ⟨rfl, hd2⟩; have hk3 := below_trans2 hk2 hd2) | ((with_reducible refine (rfour_any _ pa pb pc pd qd qc qb qa false false true false).mono ?_); rw [HY3.out.1, HY3.out.2]; rintro e v3 ⟨rfl, hd3⟩; have hk4 := below_trans2 hk3 hd3))
  all_goals
    refine bodyPost_ret (results_q41 rfl _ _ (n + 1 + 1) y0 y1 y2 y3 rfl (store4 (block_later (block_later HR.out HBV.out) hk4) _ _ _ _)) rfl ⟨?_, ?_⟩
    · simp [*]
    · rw [hn]
      exact below_set4 (hB.out.trans ((below_trans2 HBV.out hk4).mono (by omega))) (by omega) _ _ _ _
  
set_option maxRecDepth 100000 in
set_option maxHeartbeats 1000000 in
theorem rqconj_any (w : World) (p : Q4) :
    Calls Try.prog 52 #[.agg #[.int .i64 p.a, .int .i64 p.b, .int .i64 p.c, .int .i64 p.d]] w fun e w' =>
      e = .returned (.agg #[.int .i64 (qconj p).a, .int .i64 (qconj p).b, .int .i64 (qconj p).c, .int .i64 (qconj p).d]) ∧ Below w.heap.size w w' := by
  unfold qconj
  obtain ⟨z0, hz0⟩ : ∃ z, subQ 0 p.b = z := ⟨_, rfl⟩
  have HZ0 := Lib.hid hz0
  rw [hz0]
  clear hz0
  obtain ⟨z1, hz1⟩ : ∃ z, subQ 0 p.c = z := ⟨_, rfl⟩
  have HZ1 := Lib.hid hz1
  rw [hz1]
  clear hz1
  obtain ⟨z2, hz2⟩ : ∃ z, subQ 0 p.d = z := ⟨_, rfl⟩
  have HZ2 := Lib.hid hz2
  rw [hz2]
  clear hz2
  obtain ⟨n, hn⟩ : ∃ n, w.heap.size = n := ⟨_, rfl⟩
  obtain ⟨pa, pb, pc, pd⟩ := p
  go_enter Try.func52, Try.ntmps52
  go_upto_region 1 with fail
  obtain ⟨W, hW⟩ : ∃ W, W = ((w.alloc (row4 pa pb pc pd)).alloc (row4 0 0 0 0)) := ⟨_, rfl⟩
  have hp : W.heap[n]? = some (row4 pa pb pc pd) := by rw [hW, heap_old _ _ _ (by simp; omega)]; exact heap_at _ _ _ hn.symm
  have hr : W.heap[n + 1]? = some (row4 0 0 0 0) := by rw [hW]; exact heap_at _ _ _ (by simp; omega)
  have hB : Hid (Below n w W) := by rw [hW, ← hn]; exact below2 _ _ _
  unfold row4 at hW
  rw [← hW]
  clear hW
  have rp := row4_cell hp
  have rr := row4_cell hr
  have rf := row4_frozen hr
  have HR := Lib.hid hr
  clear hp hr
  go_wp2_with (go_at_call 40; first | ((with_reducible refine (rsub_any 0 pb _).mono ?_); rw [HZ0.out]; rintro e v ⟨rfl, rfl⟩) | ((with_reducible refine (rsub_any 0 pc _).mono ?_); rw [HZ1.out]; rintro e v ⟨rfl, rfl⟩) | ((with_reducible refine (rsub_any 0 pd _).mono ?_); rw [HZ2.out]; rintro e v ⟨rfl, rfl⟩))
  refine bodyPost_ret (results_q4 rfl _ _ (n + 1) pa z0 z1 z2 rfl (store4 HR.out _ _ _ _)) rfl ⟨rfl, ?_⟩
  rw [hn]
  exact below_set4 hB.out (by omega) _ _ _ _
  
set_option maxRecDepth 100000 in
set_option maxHeartbeats 1000000 in
theorem rqnorm_any (w : World) (p : Q4) :
    Calls Try.prog 48 #[.agg #[.int .i64 p.a, .int .i64 p.b, .int .i64 p.c, .int .i64 p.d]] w fun e w' =>
      e = .returned (.tuple #[.int .i64 (qnorm p), .bool (qnormO p)]) ∧ Below w.heap.size w w' := by
  obtain ⟨pa, pb, pc, pd⟩ := p
  obtain ⟨y, hy⟩ : ∃ y, qnorm ⟨pa, pb, pc, pd⟩ = y := ⟨_, rfl⟩
  obtain ⟨o, ho⟩ : ∃ y, qnormO ⟨pa, pb, pc, pd⟩ = y := ⟨_, rfl⟩
  have HF : Hid (∀ w, Calls Try.prog 100 #[.agg #[.int .i64 pa, .int .i64 pb, .int .i64 pc, .int .i64 pd], .agg #[.int .i64 pa, .int .i64 pb, .int .i64 pc, .int .i64 pd], .agg #[.bool false, .bool false, .bool false, .bool false]] w fun e w' => e = .returned (.tuple #[.int .i64 y, .bool o]) ∧ Below w.heap.size w w') := by
    intro w; rw [← hy, ← ho]; exact rfour_any w pa pb pc pd pa pb pc pd false false false false
  rw [hy, ho]
  clear hy ho
  go_enter Try.func48, Try.ntmps48
  go_wp2_with (go_at_call 100; refine (HF.out _).mono ?_; rintro e v ⟨rfl, hd⟩)
  go_ret2
  exact ⟨rfl, below_trans2 (below2 _ _ _) hd⟩

set_option maxRecDepth 100000 in
set_option maxHeartbeats 1000000 in
theorem rqright_any (w : World) (p : Q4) :
    Calls Try.prog 54 #[.agg #[.int .i64 p.a, .int .i64 p.b, .int .i64 p.c, .int .i64 p.d]] w fun e w' => e = .returned (.bool (qright p)) ∧ Below w.heap.size w w' := by
  obtain ⟨a, b, c, d⟩ := p
  show Calls _ _ #[.agg #[.int .i64 a, .int .i64 b, .int .i64 c, .int .i64 d]] _ _
  have HQ : Hid (qright ⟨a, b, c, d⟩ = !(clo a || clo b || clo c || clo d)) := by show _ = _; rfl
  rw [HQ.out]
  go_enter Try.func54, Try.ntmps54
  go_wp2_with fail
  refine wp_loop_rounds 5 ?_
  rw [rounds_succ]
  go_wp2_with (go_at_call 68; refine (rin_any a _).mono ?_; rintro e v ⟨rfl, rfl⟩)
  all_goals first | (go_ret; exact ⟨retB (by simp [*]), below1 _ _⟩) | skip
  rw [rounds_succ]
  go_wp2_with (go_at_call 68; refine (rin_any b _).mono ?_; rintro e v ⟨rfl, rfl⟩)
  all_goals first | (go_ret; exact ⟨retB (by simp [*]), below1 _ _⟩) | skip
  rw [rounds_succ]
  go_wp2_with (go_at_call 68; refine (rin_any c _).mono ?_; rintro e v ⟨rfl, rfl⟩)
  all_goals first | (go_ret; exact ⟨retB (by simp [*]), below1 _ _⟩) | skip
  rw [rounds_succ]
  go_wp2_with (go_at_call 68; refine (rin_any d _).mono ?_; rintro e v ⟨rfl, rfl⟩)
  all_goals first | (go_ret; exact ⟨retB (by simp [*]), below1 _ _⟩) | skip
  rw [rounds_succ]
  go_wp2_with fail
  all_goals (go_ret; exact ⟨retB (by simp [*]), below1 _ _⟩)

end Go.Proofs.Ytijohedhbbddjaa
