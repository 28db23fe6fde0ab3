/- The walk of alidaderef04.four. -/
import Derived.Test.YtijohedhbbddjaaU6
namespace Go.Proofs.Ytijohedhbbddjaa
open Go.RowKit

theorem swapEq {P : Program} {f : FuncId} {args : Array Value} {w : World} {v : Value} (h : Calls P f args w fun e w' => e = .returned v ∧ w = w') : Calls P f args w fun e w' => e = .returned v ∧ w' = w :=
  h.mono fun _ _ h => ⟨h.1, h.2.symm⟩

def sUp (t0 t1 t2 t3 : Int) : Nat → Int
  | 0 => 0
  | 1 => t0
  | 2 => addQ t0 t1
  | 3 => addQ (addQ t0 t1) t2
  | _ => addQ (addQ (addQ t0 t1) t2) t3
def oUp (t0 t1 t2 t3 : Int) (u0 u1 u2 u3 : Bool) : Nat → Bool
  | 0 => false
  | 1 => u0
  | 2 => (u0 || u1) || addO t0 t1
  | 3 => (((u0 || u1) || addO t0 t1) || u2) || addO (addQ t0 t1) t2
  | _ => (((((u0 || u1) || addO t0 t1) || u2) || addO (addQ t0 t1) t2) || u3) || addO (addQ (addQ t0 t1) t2) t3
section
variable (t0 t1 t2 t3 : Int) (u0 u1 u2 u3 : Bool)
theorem sUp_0 : sUp t0 t1 t2 t3 0 = 0 := by delta sUp; rfl
theorem sUp_1 : sUp t0 t1 t2 t3 1 = t0 := by delta sUp; rfl
theorem sUp_2 : sUp t0 t1 t2 t3 2 = addQ t0 t1 := by delta sUp; rfl
theorem sUp_3 : sUp t0 t1 t2 t3 3 = addQ (addQ t0 t1) t2 := by delta sUp; rfl
theorem sUp_4 : sUp t0 t1 t2 t3 4 = addQ (addQ (addQ t0 t1) t2) t3 := by delta sUp; rfl
theorem oUp_0 : oUp t0 t1 t2 t3 u0 u1 u2 u3 0 = false := by delta oUp; rfl
theorem oUp_1 : oUp t0 t1 t2 t3 u0 u1 u2 u3 1 = u0 := by delta oUp; rfl
theorem oUp_2 : oUp t0 t1 t2 t3 u0 u1 u2 u3 2 = ((u0 || u1) || addO t0 t1) := by delta oUp; rfl
theorem oUp_3 : oUp t0 t1 t2 t3 u0 u1 u2 u3 3 = ((((u0 || u1) || addO t0 t1) || u2) || addO (addQ t0 t1) t2) := by delta oUp; rfl
theorem oUp_4 : oUp t0 t1 t2 t3 u0 u1 u2 u3 4 = ((((((u0 || u1) || addO t0 t1) || u2) || addO (addQ t0 t1) t2) || u3) || addO (addQ (addQ t0 t1) t2) t3) := by delta oUp; rfl
end
set_option maxHeartbeats 1000000 in
theorem oUp_end (t0 t1 t2 t3 : Int) (u0 u1 u2 u3 : Bool) : oUp t0 t1 t2 t3 u0 u1 u2 u3 4 = (u0 || u1 || u2 || u3 || sum4O t0 t1 t2 t3) := by
  rw [oUp_4]
  unfold sum4O
  generalize addO t0 t1 = a
  generalize addO (addQ t0 t1) t2 = b
  generalize addO (addQ (addQ t0 t1) t2) t3 = c
  clear t0 t1 t2 t3
  cases u0 <;> cases a <;> cases b <;> simp [Bool.or_assoc, Bool.or_comm, Bool.or_left_comm]
theorem retV {k : IntKind} {a b : Int} (h : a = b) : Value.int k a = .int k b := by rw [h]
theorem retVB {a b : Bool} (h : a = b) : Value.bool a = .bool b := by rw [h]
theorem trmQ_t (x y : Int) : trmQ x y true = subQ 0 (mulQ x y) := by unfold trmQ; rw [if_pos (Eq.refl true)]
theorem trmQ_f (x y : Int) : trmQ x y false = mulQ x y := by unfold trmQ; rw [if_neg Bool.false_ne_true]
theorem trmO_t (x y : Int) : trmO x y true = (mulO x y || subO 0 (mulQ x y)) := by unfold trmO; rw [Bool.true_and]
theorem trmO_f (x y : Int) : trmO x y false = mulO x y := by simp [trmO]

set_option maxRecDepth 100000 in
set_option maxHeartbeats 2000000 in
theorem rfour_any (w : World) (x0 x1 x2 x3 y0 y1 y2 y3 : Int) (m0 m1 m2 m3 : Bool) :
    Calls Try.prog 100 #[.agg #[.int .i64 x0, .int .i64 x1, .int .i64 x2, .int .i64 x3], .agg #[.int .i64 y0, .int .i64 y1, .int .i64 y2, .int .i64 y3], .agg #[.bool m0, .bool m1, .bool m2, .bool m3]] w fun e w' =>
      e = .returned (.tuple #[.int .i64 (fourQ x0 y0 m0 x1 y1 m1 x2 y2 m2 x3 y3 m3), .bool (fourO x0 y0 m0 x1 y1 m1 x2 y2 m2 x3 y3 m3)]) ∧ Below w.heap.size w w' := by
  unfold fourQ fourO
  obtain ⟨t0, ht0⟩ : ∃ z, trmQ x0 y0 m0 = z := ⟨_, rfl⟩
  obtain ⟨u0, hu0⟩ : ∃ z, trmO x0 y0 m0 = z := ⟨_, rfl⟩
  have HT0 := Lib.hid (And.intro ht0 hu0)
  rw [ht0, hu0]
  clear ht0 hu0
  obtain ⟨t1, ht1⟩ : ∃ z, trmQ x1 y1 m1 = z := ⟨_, rfl⟩
  obtain ⟨u1, hu1⟩ : ∃ z, trmO x1 y1 m1 = z := ⟨_, rfl⟩
  have HT1 := Lib.hid (And.intro ht1 hu1)
  rw [ht1, hu1]
  clear ht1 hu1
  obtain ⟨t2, ht2⟩ : ∃ z, trmQ x2 y2 m2 = z := ⟨_, rfl⟩
  obtain ⟨u2, hu2⟩ : ∃ z, trmO x2 y2 m2 = z := ⟨_, rfl⟩
  have HT2 := Lib.hid (And.intro ht2 hu2)
  rw [ht2, hu2]
  clear ht2 hu2
  obtain ⟨t3, ht3⟩ : ∃ z, trmQ x3 y3 m3 = z := ⟨_, rfl⟩
  obtain ⟨u3, hu3⟩ : ∃ z, trmO x3 y3 m3 = z := ⟨_, rfl⟩
  have HT3 := Lib.hid (And.intro ht3 hu3)
  rw [ht3, hu3]
  clear ht3 hu3
  obtain ⟨q, hq⟩ : ∃ q, sum4 t0 t1 t2 t3 = q := ⟨_, rfl⟩
  obtain ⟨o, ho⟩ : ∃ q, (u0 || u1 || u2 || u3 || sum4O t0 t1 t2 t3) = q := ⟨_, rfl⟩
  have HQ := Lib.hid (And.intro hq ho)
  rw [hq, ho]
  clear hq ho
  have e7 : ∀ x y : Int, (x == y) = decide (x = y) := fun _ _ => rfl
  obtain ⟨n, hn⟩ : ∃ n, w.heap.size = n := ⟨_, rfl⟩
  go_enter Try.func100, Try.ntmps100
  go_upto_region 3 with fail
  obtain ⟨W, hW⟩ : ∃ W, W = (((w.alloc (.cells #[.int .i64 x0, .int .i64 x1, .int .i64 x2, .int .i64 x3] 55)).alloc (.cells #[.int .i64 y0, .int .i64 y1, .int .i64 y2, .int .i64 y3] 55)).alloc (.cells #[.bool m0, .bool m1, .bool m2, .bool m3] 123)) := ⟨_, rfl⟩
  have h0 : W.heap[n]? = some (.cells #[.int .i64 x0, .int .i64 x1, .int .i64 x2, .int .i64 x3] 55 (0, 0)) := by rw [hW, heap_old _ _ _ (by simp; omega), heap_old _ _ _ (by simp; omega)]; exact heap_at _ _ _ hn.symm
  have h1 : W.heap[n + 1]? = some (.cells #[.int .i64 y0, .int .i64 y1, .int .i64 y2, .int .i64 y3] 55 (0, 0)) := by rw [hW, heap_old _ _ _ (by simp; omega)]; exact heap_at _ _ _ (by simp; omega)
  have h2 : W.heap[n + 1 + 1]? = some (.cells #[.bool m0, .bool m1, .bool m2, .bool m3] 123 (0, 0)) := by rw [hW]; exact heap_at _ _ _ (by simp; omega)
  have hB : Hid (Below n w W) := by rw [hW, ← hn]; exact below3 _ _ _ _
  rw [← hW]
  clear hW
  have ra0 := cells_later (w := W) (a := ⟨n, 0, none⟩) (v := .int .i64 x0) (by rw [cell_of_row _ _ _ _ _ _ h0]; rfl)
  have rb0 := cells_later (w := W) (a := ⟨n + 1, 0, none⟩) (v := .int .i64 y0) (by rw [cell_of_row _ _ _ _ _ _ h1]; rfl)
  have rm0 := cells_later (w := W) (a := ⟨n + 1 + 1, 0, none⟩) (v := .bool m0) (by rw [cell_of_row _ _ _ _ _ _ h2]; rfl)
  have ra1 := cells_later (w := W) (a := ⟨n, 1, none⟩) (v := .int .i64 x1) (by rw [cell_of_row _ _ _ _ _ _ h0]; rfl)
  have rb1 := cells_later (w := W) (a := ⟨n + 1, 1, none⟩) (v := .int .i64 y1) (by rw [cell_of_row _ _ _ _ _ _ h1]; rfl)
  have rm1 := cells_later (w := W) (a := ⟨n + 1 + 1, 1, none⟩) (v := .bool m1) (by rw [cell_of_row _ _ _ _ _ _ h2]; rfl)
  have ra2 := cells_later (w := W) (a := ⟨n, 2, none⟩) (v := .int .i64 x2) (by rw [cell_of_row _ _ _ _ _ _ h0]; rfl)
  have rb2 := cells_later (w := W) (a := ⟨n + 1, 2, none⟩) (v := .int .i64 y2) (by rw [cell_of_row _ _ _ _ _ _ h1]; rfl)
  have rm2 := cells_later (w := W) (a := ⟨n + 1 + 1, 2, none⟩) (v := .bool m2) (by rw [cell_of_row _ _ _ _ _ _ h2]; rfl)
  have ra3 := cells_later (w := W) (a := ⟨n, 3, none⟩) (v := .int .i64 x3) (by rw [cell_of_row _ _ _ _ _ _ h0]; rfl)
  have rb3 := cells_later (w := W) (a := ⟨n + 1, 3, none⟩) (v := .int .i64 y3) (by rw [cell_of_row _ _ _ _ _ _ h1]; rfl)
  have rm3 := cells_later (w := W) (a := ⟨n + 1 + 1, 3, none⟩) (v := .bool m3) (by rw [cell_of_row _ _ _ _ _ _ h2]; rfl)
  clear h0 h1 h2
  go_wp2_with fail
  go_loopg [8, 9, 10] 4 (fun k sv ov iv wr => ∃ i : Nat, i ≤ 4 ∧ k = 4 - i ∧ sv = .int .i64 (sUp t0 t1 t2 t3 i) ∧ ov = .bool (oUp t0 t1 t2 t3 u0 u1 u2 u3 i) ∧ iv = .int .i64 i ∧ Below W.heap.size W wr)
  case atStart => exact ⟨0, by omega, by omega, retV (sUp_0 _ _ _ _).symm, retVB (oUp_0 _ _ _ _ _ _ _ _).symm, rfl, Below.refl _ _⟩
  case round =>
    obtain ⟨i, hi, rfl, rfl, rfl, rfl, hk⟩ := hrel
    by_cases hlt : i < 4
    · obtain (rfl | rfl | rfl | rfl) : i = 0 ∨ i = 1 ∨ i = 2 ∨ i = 3 := by omega
      · clear hi hlt ra1 rb1 rm1 ra2 rb2 rm2 ra3 rb3 rm3
        have hc0 : ((0 : Nat) : Int) = 0 := rfl
        have ra0 := ra0 wr hk
        have rb0 := rb0 wr hk
        have rm0 := rm0 wr hk
        obtain ⟨S, hS⟩ : ∃ S, sUp t0 t1 t2 t3 0 = S := ⟨_, rfl⟩
        obtain ⟨B, hB0⟩ : ∃ B, oUp t0 t1 t2 t3 u0 u1 u2 u3 0 = B := ⟨_, rfl⟩
        rw [hS, hB0]
        have hBf : B = false := hB0.symm.trans (oUp_0 _ _ _ _ _ _ _ _)
        subst hBf
        have HSB := Lib.hid (And.intro hS hB0)
        clear hS hB0
        obtain ⟨z, hz⟩ : ∃ z, mulQ x0 y0 = z := ⟨_, rfl⟩
        obtain ⟨mo, hmo⟩ : ∃ z, mulO x0 y0 = z := ⟨_, rfl⟩
        have HM : Hid (∀ w, Calls Try.prog 14 #[.int .i64 x0, .int .i64 y0] w fun e w' => e = .returned (.tuple #[.int .i64 z, .bool mo]) ∧ w = w') := by
          intro w; rw [← hz, ← hmo]; exact rmul_any _ _ w
        obtain ⟨z', hz'⟩ : ∃ z', subQ 0 z = z' := ⟨_, rfl⟩
        obtain ⟨so, hso⟩ : ∃ z', subO 0 z = z' := ⟨_, rfl⟩
        have HSu : Hid (∀ w, Calls Try.prog 40 #[.int .i64 0, .int .i64 z] w fun e w' => e = .returned (.tuple #[.int .i64 z', .bool so]) ∧ w = w') := by
          intro w; rw [← hz', ← hso]; exact rsub_any _ _ w
        have HT := HT0
        cases m0
        · have hT : t0 = z ∧ u0 = mo := by
            have h := HT.out
            rw [trmQ_f, trmO_f] at h
            rw [← h.1, ← h.2, hz, hmo]
            exact ⟨rfl, rfl⟩
          have HTT := Lib.hid hT
          clear hT hz hmo hz' hso
          go_wp2_with fail
          go_quiet (first | (go_at_call 14; refine Calls.quiet_of_same (swapEq (HM.out _))))
          go_wp2_with fail
          all_goals
            go_roundg (3)
            case measure => omega
            case rel =>
              have h := HTT.out
              have g := HSB.out
              refine ⟨1, by omega, by omega, retV ?_, retVB ?_, rfl, by first | exact Below.drew hk | exact below_drewN' hk _⟩
              · simp only [sUp_0, sUp_1, sUp_2, sUp_3, sUp_4] at g ⊢
                rw [h.1]
              · simp only [sUp_0, sUp_1, sUp_2, sUp_3, sUp_4, oUp_0, oUp_1, oUp_2, oUp_3, oUp_4] at g ⊢
                rw [h.2]
                all_goals first | rfl | simp [*]
        · have hT : t0 = z' ∧ u0 = (mo || so) := by
            have h := HT.out
            rw [trmQ_t, trmO_t] at h
            rw [← h.1, ← h.2, hz, hmo, hz', hso]
            exact ⟨rfl, rfl⟩
          have HTT := Lib.hid hT
          clear hT hz hmo hz' hso
          go_wp2_with fail
          go_quiet (first | (go_at_call 14; refine Calls.quiet_of_same (swapEq (HM.out _))))
          go_wp2_with (first | (go_at_call 40; refine (HSu.out _).mono ?_; rintro e w' ⟨rfl, rfl⟩))
          all_goals
            go_roundg (3)
            case measure => omega
            case rel =>
              have h := HTT.out
              have g := HSB.out
              refine ⟨1, by omega, by omega, retV ?_, retVB ?_, rfl, by first | exact Below.drew hk | exact below_drewN' hk _⟩
              · simp only [sUp_0, sUp_1, sUp_2, sUp_3, sUp_4] at g ⊢
                rw [h.1]
              · simp only [sUp_0, sUp_1, sUp_2, sUp_3, sUp_4, oUp_0, oUp_1, oUp_2, oUp_3, oUp_4] at g ⊢
                rw [h.2]
                all_goals first | rfl | simp [*]
      · clear hi hlt ra0 rb0 rm0 ra2 rb2 rm2 ra3 rb3 rm3
        have hc0 : ((1 : Nat) : Int) = 1 := rfl
        have ra1 := ra1 wr hk
        have rb1 := rb1 wr hk
        have rm1 := rm1 wr hk
        obtain ⟨S, hS⟩ : ∃ S, sUp t0 t1 t2 t3 1 = S := ⟨_, rfl⟩
        obtain ⟨B, hB0⟩ : ∃ B, oUp t0 t1 t2 t3 u0 u1 u2 u3 1 = B := ⟨_, rfl⟩
        rw [hS, hB0]
        skip
        skip
        have HSB := Lib.hid (And.intro hS hB0)
        clear hS hB0
        obtain ⟨z, hz⟩ : ∃ z, mulQ x1 y1 = z := ⟨_, rfl⟩
        obtain ⟨mo, hmo⟩ : ∃ z, mulO x1 y1 = z := ⟨_, rfl⟩
        have HM : Hid (∀ w, Calls Try.prog 14 #[.int .i64 x1, .int .i64 y1] w fun e w' => e = .returned (.tuple #[.int .i64 z, .bool mo]) ∧ w = w') := by
          intro w; rw [← hz, ← hmo]; exact rmul_any _ _ w
        obtain ⟨z', hz'⟩ : ∃ z', subQ 0 z = z' := ⟨_, rfl⟩
        obtain ⟨so, hso⟩ : ∃ z', subO 0 z = z' := ⟨_, rfl⟩
        have HSu : Hid (∀ w, Calls Try.prog 40 #[.int .i64 0, .int .i64 z] w fun e w' => e = .returned (.tuple #[.int .i64 z', .bool so]) ∧ w = w') := by
          intro w; rw [← hz', ← hso]; exact rsub_any _ _ w
        have HT := HT1
        cases m1
        · have hT : t1 = z ∧ u1 = mo := by
            have h := HT.out
            rw [trmQ_f, trmO_f] at h
            rw [← h.1, ← h.2, hz, hmo]
            exact ⟨rfl, rfl⟩
          have HTT := Lib.hid hT
          clear hT hz hmo hz' hso
          go_wp2_with fail
          go_quiet (first | (go_at_call 14; refine Calls.quiet_of_same (swapEq (HM.out _))))
          go_wp2_with (first | (go_at_call 38; refine (radd_any S z _).mono ?_; rintro e w' ⟨rfl, rfl⟩))
          all_goals
            go_roundg (2)
            case measure => omega
            case rel =>
              have h := HTT.out
              have g := HSB.out
              refine ⟨2, by omega, by omega, retV ?_, retVB ?_, rfl, by first | exact Below.drew hk | exact below_drewN' hk _⟩
              · simp only [sUp_0, sUp_1, sUp_2, sUp_3, sUp_4] at g ⊢
                rw [h.1, g.1]
              · simp only [sUp_0, sUp_1, sUp_2, sUp_3, sUp_4, oUp_0, oUp_1, oUp_2, oUp_3, oUp_4] at g ⊢
                rw [h.2, h.1, g.1, g.2]
                all_goals first | rfl | simp [*]
        · have hT : t1 = z' ∧ u1 = (mo || so) := by
            have h := HT.out
            rw [trmQ_t, trmO_t] at h
            rw [← h.1, ← h.2, hz, hmo, hz', hso]
            exact ⟨rfl, rfl⟩
          have HTT := Lib.hid hT
          clear hT hz hmo hz' hso
          go_wp2_with fail
          go_quiet (first | (go_at_call 14; refine Calls.quiet_of_same (swapEq (HM.out _))))
          go_wp2_with (first | (go_at_call 40; refine (HSu.out _).mono ?_; rintro e w' ⟨rfl, rfl⟩) | (go_at_call 38; refine (radd_any S z' _).mono ?_; rintro e w' ⟨rfl, rfl⟩))
          all_goals
            go_roundg (2)
            case measure => omega
            case rel =>
              have h := HTT.out
              have g := HSB.out
              refine ⟨2, by omega, by omega, retV ?_, retVB ?_, rfl, by first | exact Below.drew hk | exact below_drewN' hk _⟩
              · simp only [sUp_0, sUp_1, sUp_2, sUp_3, sUp_4] at g ⊢
                rw [h.1, g.1]
              · simp only [sUp_0, sUp_1, sUp_2, sUp_3, sUp_4, oUp_0, oUp_1, oUp_2, oUp_3, oUp_4] at g ⊢
                rw [h.2, h.1, g.1, g.2]
                all_goals first | rfl | simp [*]
      · clear hi hlt ra0 rb0 rm0 ra1 rb1 rm1 ra3 rb3 rm3
        have hc0 : ((2 : Nat) : Int) = 2 := rfl
        have ra2 := ra2 wr hk
        have rb2 := rb2 wr hk
        have rm2 := rm2 wr hk
        obtain ⟨S, hS⟩ : ∃ S, sUp t0 t1 t2 t3 2 = S := ⟨_, rfl⟩
        obtain ⟨B, hB0⟩ : ∃ B, oUp t0 t1 t2 t3 u0 u1 u2 u3 2 = B := ⟨_, rfl⟩
        rw [hS, hB0]
        skip
        skip
        have HSB := Lib.hid (And.intro hS hB0)
        clear hS hB0
        obtain ⟨z, hz⟩ : ∃ z, mulQ x2 y2 = z := ⟨_, rfl⟩
        obtain ⟨mo, hmo⟩ : ∃ z, mulO x2 y2 = z := ⟨_, rfl⟩
        have HM : Hid (∀ w, Calls Try.prog 14 #[.int .i64 x2, .int .i64 y2] w fun e w' => e = .returned (.tuple #[.int .i64 z, .bool mo]) ∧ w = w') := by
          intro w; rw [← hz, ← hmo]; exact rmul_any _ _ w
        obtain ⟨z', hz'⟩ : ∃ z', subQ 0 z = z' := ⟨_, rfl⟩
        obtain ⟨so, hso⟩ : ∃ z', subO 0 z = z' := ⟨_, rfl⟩
        have HSu : Hid (∀ w, Calls Try.prog 40 #[.int .i64 0, .int .i64 z] w fun e w' => e = .returned (.tuple #[.int .i64 z', .bool so]) ∧ w = w') := by
          intro w; rw [← hz', ← hso]; exact rsub_any _ _ w
        have HT := HT2
        cases m2
        · have hT : t2 = z ∧ u2 = mo := by
            have h := HT.out
            rw [trmQ_f, trmO_f] at h
            rw [← h.1, ← h.2, hz, hmo]
            exact ⟨rfl, rfl⟩
          have HTT := Lib.hid hT
          clear hT hz hmo hz' hso
          go_wp2_with fail
          go_quiet (first | (go_at_call 14; refine Calls.quiet_of_same (swapEq (HM.out _))))
          go_wp2_with (first | (go_at_call 38; refine (radd_any S z _).mono ?_; rintro e w' ⟨rfl, rfl⟩))
          all_goals
            go_roundg (1)
            case measure => omega
            case rel =>
              have h := HTT.out
              have g := HSB.out
              refine ⟨3, by omega, by omega, retV ?_, retVB ?_, rfl, by first | exact Below.drew hk | exact below_drewN' hk _⟩
              · simp only [sUp_0, sUp_1, sUp_2, sUp_3, sUp_4] at g ⊢
                rw [h.1, g.1]
              · simp only [sUp_0, sUp_1, sUp_2, sUp_3, sUp_4, oUp_0, oUp_1, oUp_2, oUp_3, oUp_4] at g ⊢
                rw [h.2, h.1, g.1, g.2]
                all_goals first | rfl | simp [*]
        · have hT : t2 = z' ∧ u2 = (mo || so) := by
            have h := HT.out
            rw [trmQ_t, trmO_t] at h
            rw [← h.1, ← h.2, hz, hmo, hz', hso]
            exact ⟨rfl, rfl⟩
          have HTT := Lib.hid hT
          clear hT hz hmo hz' hso
          go_wp2_with fail
          go_quiet (first | (go_at_call 14; refine Calls.quiet_of_same (swapEq (HM.out _))))
          go_wp2_with (first | (go_at_call 40; refine (HSu.out _).mono ?_; rintro e w' ⟨rfl, rfl⟩) | (go_at_call 38; refine (radd_any S z' _).mono ?_; rintro e w' ⟨rfl, rfl⟩))
          all_goals
            go_roundg (1)
            case measure => omega
            case rel =>
              have h := HTT.out
              have g := HSB.out
              refine ⟨3, by omega, by omega, retV ?_, retVB ?_, rfl, by first | exact Below.drew hk | exact below_drewN' hk _⟩
              · simp only [sUp_0, sUp_1, sUp_2, sUp_3, sUp_4] at g ⊢
                rw [h.1, g.1]
              · simp only [sUp_0, sUp_1, sUp_2, sUp_3, sUp_4, oUp_0, oUp_1, oUp_2, oUp_3, oUp_4] at g ⊢
                rw [h.2, h.1, g.1, g.2]
                all_goals first | rfl | simp [*]
      · clear hi hlt ra0 rb0 rm0 ra1 rb1 rm1 ra2 rb2 rm2
        have hc0 : ((3 : Nat) : Int) = 3 := rfl
        have ra3 := ra3 wr hk
        have rb3 := rb3 wr hk
        have rm3 := rm3 wr hk
        obtain ⟨S, hS⟩ : ∃ S, sUp t0 t1 t2 t3 3 = S := ⟨_, rfl⟩
        obtain ⟨B, hB0⟩ : ∃ B, oUp t0 t1 t2 t3 u0 u1 u2 u3 3 = B := ⟨_, rfl⟩
        rw [hS, hB0]
        skip
        skip
        have HSB := Lib.hid (And.intro hS hB0)
        clear hS hB0
        obtain ⟨z, hz⟩ : ∃ z, mulQ x3 y3 = z := ⟨_, rfl⟩
        obtain ⟨mo, hmo⟩ : ∃ z, mulO x3 y3 = z := ⟨_, rfl⟩
        have HM : Hid (∀ w, Calls Try.prog 14 #[.int .i64 x3, .int .i64 y3] w fun e w' => e = .returned (.tuple #[.int .i64 z, .bool mo]) ∧ w = w') := by
          intro w; rw [← hz, ← hmo]; exact rmul_any _ _ w
        obtain ⟨z', hz'⟩ : ∃ z', subQ 0 z = z' := ⟨_, rfl⟩
        obtain ⟨so, hso⟩ : ∃ z', subO 0 z = z' := ⟨_, rfl⟩
        have HSu : Hid (∀ w, Calls Try.prog 40 #[.int .i64 0, .int .i64 z] w fun e w' => e = .returned (.tuple #[.int .i64 z', .bool so]) ∧ w = w') := by
          intro w; rw [← hz', ← hso]; exact rsub_any _ _ w
        have HT := HT3
        cases m3
        · have hT : t3 = z ∧ u3 = mo := by
            have h := HT.out
            rw [trmQ_f, trmO_f] at h
            rw [← h.1, ← h.2, hz, hmo]
            exact ⟨rfl, rfl⟩
          have HTT := Lib.hid hT
          clear hT hz hmo hz' hso
          go_wp2_with fail
          go_quiet (first | (go_at_call 14; refine Calls.quiet_of_same (swapEq (HM.out _))))
          go_wp2_with (first | (go_at_call 38; refine (radd_any S z _).mono ?_; rintro e w' ⟨rfl, rfl⟩))
          all_goals
            go_roundg (0)
            case measure => omega
            case rel =>
              have h := HTT.out
              have g := HSB.out
              refine ⟨4, by omega, by omega, retV ?_, retVB ?_, rfl, by first | exact Below.drew hk | exact below_drewN' hk _⟩
              · simp only [sUp_0, sUp_1, sUp_2, sUp_3, sUp_4] at g ⊢
                rw [h.1, g.1]
              · simp only [sUp_0, sUp_1, sUp_2, sUp_3, sUp_4, oUp_0, oUp_1, oUp_2, oUp_3, oUp_4] at g ⊢
                rw [h.2, h.1, g.1, g.2]
                all_goals first | rfl | simp [*]
        · have hT : t3 = z' ∧ u3 = (mo || so) := by
            have h := HT.out
            rw [trmQ_t, trmO_t] at h
            rw [← h.1, ← h.2, hz, hmo, hz', hso]
            exact ⟨rfl, rfl⟩
          have HTT := Lib.hid hT
          clear hT hz hmo hz' hso
          go_wp2_with fail
          go_quiet (first | (go_at_call 14; refine Calls.quiet_of_same (swapEq (HM.out _))))
          go_wp2_with (first | (go_at_call 40; refine (HSu.out _).mono ?_; rintro e w' ⟨rfl, rfl⟩) | (go_at_call 38; refine (radd_any S z' _).mono ?_; rintro e w' ⟨rfl, rfl⟩))
          all_goals
            go_roundg (0)
            case measure => omega
            case rel =>
              have h := HTT.out
              have g := HSB.out
              refine ⟨4, by omega, by omega, retV ?_, retVB ?_, rfl, by first | exact Below.drew hk | exact below_drewN' hk _⟩
              · simp only [sUp_0, sUp_1, sUp_2, sUp_3, sUp_4] at g ⊢
                rw [h.1, g.1]
              · simp only [sUp_0, sUp_1, sUp_2, sUp_3, sUp_4, oUp_0, oUp_1, oUp_2, oUp_3, oUp_4] at g ⊢
                rw [h.2, h.1, g.1, g.2]
                all_goals first | rfl | simp [*]
    · have h4 : i = 4 := by omega
      subst h4
      have hc0 : ((4 : Nat) : Int) = 4 := rfl
      clear hi hlt
      go_wp2_with fail
      go_ret2
      rw [hn]
      refine ⟨ret2 ?_ ?_, hB.out.trans (hk.mono (by have := hB.out.size; omega))⟩
      · rw [← HQ.out.1, sUp_4]; rfl
      · rw [oUp_end, HQ.out.2]

end Go.Proofs.Ytijohedhbbddjaa
