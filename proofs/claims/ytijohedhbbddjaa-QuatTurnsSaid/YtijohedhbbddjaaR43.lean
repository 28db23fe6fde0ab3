/- The walk of the reference's Unit. -/
import Derived.Test.YtijohedhbbddjaaR42
namespace Go.Proofs.Ytijohedhbbddjaa
open Go.RowKit

def dUp (m a b c d : Bool) : Nat → Bool
  | 0 => m
  | 1 => m || a
  | 2 => (m || a) || b
  | 3 => ((m || a) || b) || c
  | _ => (((m || a) || b) || c) || d

set_option maxRecDepth 100000 in
set_option maxHeartbeats 2000000 in
theorem rqunit_any (w : World) (p : Q4) :
    Calls Try.prog 50 #[.agg #[.int .i64 p.a, .int .i64 p.b, .int .i64 p.c, .int .i64 p.d]] w fun e w' =>
      e = .returned (.tuple #[.agg #[.int .i64 (qunit p).a, .int .i64 (qunit p).b, .int .i64 (qunit p).c, .int .i64 (qunit p).d], .bool (qunitO p)]) ∧ Below w.heap.size w w' := by
  have hN := fun w => rqnorm_any w p
  obtain ⟨s, hs⟩ : ∃ s, sqrtQ (qnorm p) = s := ⟨_, rfl⟩
  obtain ⟨so, hso⟩ : ∃ s, sqrtO (qnorm p) = s := ⟨_, rfl⟩
  have hS := fun w => rsqrt_all (qnorm p) w
  have hU : qunit p = if s = 0 then ⟨16777216, 0, 0, 0⟩ else ⟨divQ p.a s, divQ p.b s, divQ p.c s, divQ p.d s⟩ := by unfold qunit; rw [hs]
  have hUO : qunitO p = if s = 0 then true else (((((qnormO p || so) || divO p.a s) || divO p.b s) || divO p.c s) || divO p.d s) := by unfold qunitO; rw [hs, hso]
  rw [hs, hso] at hS
  obtain ⟨m, hm⟩ : ∃ m, qnorm p = m := ⟨_, rfl⟩
  obtain ⟨mo, hmo⟩ : ∃ m, qnormO p = m := ⟨_, rfl⟩
  rw [hmo] at hUO
  rw [hm, hmo] at hN
  rw [hm] at hS
  obtain ⟨a, b, c, d⟩ := p
  have HN : Hid (∀ w, Calls Try.prog 48 #[.agg #[.int .i64 a, .int .i64 b, .int .i64 c, .int .i64 d]] w fun e w' => e = .returned (.tuple #[.int .i64 m, .bool mo]) ∧ Below w.heap.size w w') := hN
  have HSq : Hid (∀ w, Calls Try.prog 43 #[.int .i64 m] w fun e w' => e = .returned (.tuple #[.int .i64 s, .bool so]) ∧ w = w') := hS
  clear hs hso hm hmo hN hS
  obtain ⟨n, hn⟩ : ∃ n, w.heap.size = n := ⟨_, rfl⟩
  by_cases h0 : s = 0
  · rw [if_pos h0] at hU hUO
    rw [hU, hUO]
    clear hU hUO
    subst h0
    go_enter Try.func50, Try.ntmps50
    go_upto_region 1 with fail
    obtain ⟨W, hW⟩ : ∃ W, W = ((w.alloc (row4 a b c d)).alloc (row4 0 0 0 0)) := ⟨_, rfl⟩
    have hp : W.heap[n]? = some (row4 a b c d) := by rw [hW, heap_old _ _ _ (by simp; omega)]; exact heap_at _ _ _ hn.symm
    have hr : W.heap[n + 1]? = some (row4 0 0 0 0) := by rw [hW]; exact heap_at _ _ _ (by simp; omega)
    have hB : Hid (Below n w W) := by rw [hW, ← hn]; exact below2 _ _ _
    have hsz : W.heap.size = n + 1 + 1 := by rw [hW]; simp; omega
    unfold row4 at hW
    rw [← hW]
    clear hW
    have hpc := row4_cell hp
    go_upto_region 3 with (first | (go_at_call 48; refine (HN.out _).mono ?_; rintro e V ⟨rfl, hd⟩) | (go_at_call 43; refine (HSq.out _).mono ?_; rintro e v ⟨rfl, rfl⟩))
    clear hpc
    have hr1 := block_later hr hd
    have hp1 := block_later hp hd
    have hds := hd.size
    have HD := Lib.hid hd
    clear hr hp hd
    have hrc := row4_cell hr1
    have hz := row4_frozen hr1
    have HR := Lib.hid hr1
    clear hr1 hp1
    go_wp2_with fail
    refine bodyPost_ret (results_q41 rfl _ _ (n + 1) 16777216 0 0 0 rfl (store4 HR.out _ _ _ _)) rfl ⟨rfl, ?_⟩
    rw [hn]
    exact below_set4 (hB.out.trans (HD.out.mono (by omega))) (by omega) _ _ _ _
  · rw [if_neg h0] at hU hUO
    rw [hU, hUO]
    clear hU hUO
    obtain ⟨z0, hz0⟩ : ∃ z, divQ a s = z := ⟨_, rfl⟩
    obtain ⟨t0, ht0⟩ : ∃ z, divO a s = z := ⟨_, rfl⟩
    have HZ0 := Lib.hid (And.intro hz0 ht0)
    obtain ⟨z1, hz1⟩ : ∃ z, divQ b s = z := ⟨_, rfl⟩
    obtain ⟨t1, ht1⟩ : ∃ z, divO b s = z := ⟨_, rfl⟩
    have HZ1 := Lib.hid (And.intro hz1 ht1)
    obtain ⟨z2, hz2⟩ : ∃ z, divQ c s = z := ⟨_, rfl⟩
    obtain ⟨t2, ht2⟩ : ∃ z, divO c s = z := ⟨_, rfl⟩
    have HZ2 := Lib.hid (And.intro hz2 ht2)
    obtain ⟨z3, hz3⟩ : ∃ z, divQ d s = z := ⟨_, rfl⟩
    obtain ⟨t3, ht3⟩ : ∃ z, divO d s = z := ⟨_, rfl⟩
    have HZ3 := Lib.hid (And.intro hz3 ht3)
    simp only [hz0, hz1, hz2, hz3, ht0, ht1, ht2, ht3]
    clear hz0 hz1 hz2 hz3 ht0 ht1 ht2 ht3
    obtain ⟨M, hM⟩ : ∃ M, (mo || so) = M := ⟨_, rfl⟩
    rw [hM]
    have HM := Lib.hid hM
    clear hM
    have e7 : (s == 0) = false := by simp [h0]
    go_enter Try.func50, Try.ntmps50
    go_upto_region 1 with fail
    obtain ⟨W, hW⟩ : ∃ W, W = ((w.alloc (row4 a b c d)).alloc (row4 0 0 0 0)) := ⟨_, rfl⟩
    have hp : W.heap[n]? = some (row4 a b c d) := by rw [hW, heap_old _ _ _ (by simp; omega)]; exact heap_at _ _ _ hn.symm
    have hr : W.heap[n + 1]? = some (row4 0 0 0 0) := by rw [hW]; exact heap_at _ _ _ (by simp; omega)
    have hB : Hid (Below n w W) := by rw [hW, ← hn]; exact below2 _ _ _
    have hsz : W.heap.size = n + 1 + 1 := by rw [hW]; simp; omega
    unfold row4 at hW
    rw [← hW]
    clear hW
    have hpc := row4_cell hp
    go_upto_region 3 with (first | (go_at_call 48; refine (HN.out _).mono ?_; rintro e V ⟨rfl, hd⟩) | (go_at_call 43; refine (HSq.out _).mono ?_; rintro e v ⟨rfl, rfl⟩))
    clear hpc
    have hr1 := block_later hr hd
    have hp1 := block_later hp hd
    have hds := hd.size
    have HD := Lib.hid hd
    clear hr hp hd
    obtain ⟨g, hg⟩ : ∃ g, V.heap.size = g := ⟨_, rfl⟩
    have hal : (V.alloc (row4 0 0 0 0)).heap[g]? = some (row4 0 0 0 0) := heap_at _ _ _ hg.symm
    have hq := cells_later4 hp1
    have HR := Lib.hid hr1
    have hgn : n + 1 + 1 ≤ g := by omega
    clear hr1 hp1
    go_upto_region 6 with fail
    all_goals
      go_upto_region 7 with fail
      obtain ⟨V1, hV1⟩ : ∃ V1, V1 = V.alloc (row4 0 0 0 0) := ⟨_, rfl⟩
      have HA : Hid (V1.heap[g]? = some (row4 0 0 0 0)) := by rw [hV1]; exact heap_at _ _ _ hg.symm
      have HBA : Hid (Below V.heap.size V V1) := by rw [hV1]; exact below1 _ _
      unfold row4 at hV1
      rw [← hV1]
      clear hV1
      go_wp2_with fail
      go_loopg [5, 9] 4 (fun k ov iv wr => ∃ i : Nat, i ≤ 4 ∧ k = 4 - i ∧ ov = .bool (dUp M t0 t1 t2 t3 i) ∧ iv = .int .i64 i ∧ wr.heap[g]? = some (yUp z0 z1 z2 z3 i) ∧ Below V.heap.size V wr)
      case atStart => exact ⟨0, by omega, by omega, retVB (by show _ = M; rw [← HM.out]; first | rfl | simp [*]), rfl, HA.out, HBA.out⟩
      case round =>
        obtain ⟨i, hi, rfl, rfl, rfl, ho, hk⟩ := hrel
        have HO := Lib.hid ho
        clear ho
        by_cases hlt : i < 4
        · obtain (rfl | rfl | rfl | rfl) : i = 0 ∨ i = 1 ∨ i = 2 ∨ i = 3 := by omega
          · clear hi hlt
            have hc0 : ((0 : Nat) : Int) = 0 := rfl
            have hx := hq.1 wr hk
            have hoc := row4_cell HO.out
            have hof := row4_frozen HO.out 0
            obtain ⟨B, hB0⟩ : ∃ B, dUp M t0 t1 t2 t3 0 = B := ⟨_, rfl⟩
            rw [hB0]
            have HB0 := Lib.hid hB0
            clear hB0
            go_wp2_with (go_at_call 42; refine (rdiv_any a s _).mono ?_; rw [HZ0.out.1, HZ0.out.2]; rintro e v ⟨rfl, rfl⟩)
            all_goals
              go_roundg (3)
              case measure => omega
              case rel =>
                refine ⟨1, by omega, by omega, retVB ?_, rfl, heap_setCell_same _ _ 0 _ _ (.int .i64 z0) HO.out, hk.setCell (by show V.heap.size ≤ g; omega) _⟩
                show _ = (dUp M t0 t1 t2 t3 0 || t0)
                rw [HB0.out]
                simp [*]
          · clear hi hlt
            have hc0 : ((1 : Nat) : Int) = 1 := rfl
            have hx := hq.2.1 wr hk
            have hoc := row4_cell HO.out
            have hof := row4_frozen HO.out 1
            obtain ⟨B, hB0⟩ : ∃ B, dUp M t0 t1 t2 t3 1 = B := ⟨_, rfl⟩
            rw [hB0]
            have HB0 := Lib.hid hB0
            clear hB0
            go_wp2_with (go_at_call 42; refine (rdiv_any b s _).mono ?_; rw [HZ1.out.1, HZ1.out.2]; rintro e v ⟨rfl, rfl⟩)
            all_goals
              go_roundg (2)
              case measure => omega
              case rel =>
                refine ⟨2, by omega, by omega, retVB ?_, rfl, heap_setCell_same _ _ 1 _ _ (.int .i64 z1) HO.out, hk.setCell (by show V.heap.size ≤ g; omega) _⟩
                show _ = (dUp M t0 t1 t2 t3 1 || t1)
                rw [HB0.out]
                simp [*]
          · clear hi hlt
            have hc0 : ((2 : Nat) : Int) = 2 := rfl
            have hx := hq.2.2.1 wr hk
            have hoc := row4_cell HO.out
            have hof := row4_frozen HO.out 2
            obtain ⟨B, hB0⟩ : ∃ B, dUp M t0 t1 t2 t3 2 = B := ⟨_, rfl⟩
            rw [hB0]
            have HB0 := Lib.hid hB0
            clear hB0
            go_wp2_with (go_at_call 42; refine (rdiv_any c s _).mono ?_; rw [HZ2.out.1, HZ2.out.2]; rintro e v ⟨rfl, rfl⟩)
            all_goals
              go_roundg (1)
              case measure => omega
              case rel =>
                refine ⟨3, by omega, by omega, retVB ?_, rfl, heap_setCell_same _ _ 2 _ _ (.int .i64 z2) HO.out, hk.setCell (by show V.heap.size ≤ g; omega) _⟩
                show _ = (dUp M t0 t1 t2 t3 2 || t2)
                rw [HB0.out]
                simp [*]
          · clear hi hlt
            have hc0 : ((3 : Nat) : Int) = 3 := rfl
            have hx := hq.2.2.2 wr hk
            have hoc := row4_cell HO.out
            have hof := row4_frozen HO.out 3
            obtain ⟨B, hB0⟩ : ∃ B, dUp M t0 t1 t2 t3 3 = B := ⟨_, rfl⟩
            rw [hB0]
            have HB0 := Lib.hid hB0
            clear hB0
            go_wp2_with (go_at_call 42; refine (rdiv_any d s _).mono ?_; rw [HZ3.out.1, HZ3.out.2]; rintro e v ⟨rfl, rfl⟩)
            all_goals
              go_roundg (0)
              case measure => omega
              case rel =>
                refine ⟨4, by omega, by omega, retVB ?_, rfl, heap_setCell_same _ _ 3 _ _ (.int .i64 z3) HO.out, hk.setCell (by show V.heap.size ≤ g; omega) _⟩
                show _ = (dUp M t0 t1 t2 t3 3 || t3)
                rw [HB0.out]
                simp [*]
        · have h4 : i = 4 := by omega
          subst h4
          have hc0 : ((4 : Nat) : Int) = 4 := rfl
          have hoc := row4_cell HO.out
          have hrr := block_later HR.out hk
          have hrc := row4_cell hrr
          have hrf := row4_frozen hrr
          have HRR := Lib.hid hrr
          clear hrr
          go_wp2_with fail
          refine bodyPost_ret (results_q41 rfl _ _ (n + 1) z0 z1 z2 z3 rfl (store4 HRR.out _ _ _ _)) rfl ⟨?_, ?_⟩
          · simp [dUp]
          · rw [hn]
            exact below_set4 (hB.out.trans ((below_trans2 HD.out hk).mono (by omega))) (by omega) _ _ _ _

end Go.Proofs.Ytijohedhbbddjaa
