/- The walk of quat.Small. -/
import Derived.Test.YtijohedhbbddjaaE4
import Derived.Test.YtijohedhbbddjaaQ7
namespace Go.Proofs.Ytijohedhbbddjaa
open Go.RowKit

theorem vidx0 (a b c : Int) (w : World) : Sem.run Try.prog (Instr.index 65 (.agg #[.int .i64 a, .int .i64 b, .int .i64 c]) (.int .i64 0)) w = .ok (.int .i64 a) w := by kernel_rfl
theorem vidx1 (a b c : Int) (w : World) : Sem.run Try.prog (Instr.index 65 (.agg #[.int .i64 a, .int .i64 b, .int .i64 c]) (.int .i64 1)) w = .ok (.int .i64 b) w := by kernel_rfl
theorem vidx2 (a b c : Int) (w : World) : Sem.run Try.prog (Instr.index 65 (.agg #[.int .i64 a, .int .i64 b, .int .i64 c]) (.int .i64 2)) w = .ok (.int .i64 c) w := by kernel_rfl

def smQ (x y z by' : Int) : Q4 := ⟨16777216, mulQ x (half1 by'), mulQ y (half1 by'), mulQ z (half1 by')⟩
def smO (x y z by' : Int) : Bool := (mulO x (half1 by') || mulO y (half1 by')) || mulO z (half1 by')
/-- The blocks of a call of Small. -/
structure InSmall (w : World) (n : Nat) (b c d : Int) (f : Bool) (wr : World) : Prop where
  q : wr.heap[n + 1 + 1 + 1]? = some (row4 16777216 b c d)
  r : wr.heap[n + 1]? = some (row4 0 0 0 0)
  fl : Fl wr (n + 1 + 1) f
  below : Below n w wr
theorem InSmall.later {w : World} {n : Nat} {b c d : Int} {f : Bool} {wr v : World} (h : InSmall w n b c d f wr) (hb : Below wr.heap.size wr v) : InSmall w n b c d f v :=
  ⟨block_later h.q hb, block_later h.r hb, h.fl.later hb, h.below.trans (hb.mono (by have := lt_of_block h.q; omega))⟩
theorem InSmall.turn {w : World} {n : Nat} {b c d : Int} {f f' : Bool} {wr v : World} (h : InSmall w n b c d f wr) (hb : But (n + 1 + 1) wr v) (hf : Fl v (n + 1 + 1) f') : InSmall w n b c d f' v :=
  ⟨hb.row h.q (by omega), hb.row h.r (by omega), hf, h.below.trans (hb.below (by omega) (by have := lt_of_block h.q; omega))⟩
theorem InSmall.set1 {w : World} {n : Nat} {b c d : Int} {f : Bool} {wr : World} (h : InSmall w n b c d f wr) (x : Int) : InSmall w n x c d f (wr.setCell ⟨n + 1 + 1 + 1, 1, none⟩ (.int .i64 x)) :=
  ⟨heap_setCell_same _ _ 1 _ _ (.int .i64 x) h.q, (Below.heap_setCell _ _ _ _ (by show n + 1 ≠ n + 1 + 1 + 1; omega)).trans h.r, (Below.heap_setCell _ _ _ _ (by show n + 1 + 1 ≠ n + 1 + 1 + 1; omega)).trans h.fl, h.below.setCell (by show n ≤ n + 1 + 1 + 1; omega) _⟩
theorem InSmall.set2 {w : World} {n : Nat} {b c d : Int} {f : Bool} {wr : World} (h : InSmall w n b c d f wr) (x : Int) : InSmall w n b x d f (wr.setCell ⟨n + 1 + 1 + 1, 2, none⟩ (.int .i64 x)) :=
  ⟨heap_setCell_same _ _ 2 _ _ (.int .i64 x) h.q, (Below.heap_setCell _ _ _ _ (by show n + 1 ≠ n + 1 + 1 + 1; omega)).trans h.r, (Below.heap_setCell _ _ _ _ (by show n + 1 + 1 ≠ n + 1 + 1 + 1; omega)).trans h.fl, h.below.setCell (by show n ≤ n + 1 + 1 + 1; omega) _⟩
theorem InSmall.set3 {w : World} {n : Nat} {b c d : Int} {f : Bool} {wr : World} (h : InSmall w n b c d f wr) (x : Int) : InSmall w n b c x f (wr.setCell ⟨n + 1 + 1 + 1, 3, none⟩ (.int .i64 x)) :=
  ⟨heap_setCell_same _ _ 3 _ _ (.int .i64 x) h.q, (Below.heap_setCell _ _ _ _ (by show n + 1 ≠ n + 1 + 1 + 1; omega)).trans h.r, (Below.heap_setCell _ _ _ _ (by show n + 1 + 1 ≠ n + 1 + 1 + 1; omega)).trans h.fl, h.below.setCell (by show n ≤ n + 1 + 1 + 1; omega) _⟩

set_option maxRecDepth 100000 in
set_option maxHeartbeats 2000000 in
theorem qsmall_any (w : World) (x y z k : Int) (h1 : -9223372036854775808 ≤ k) (h2 : k ≤ 9223372036854775807) :
    Calls Try.prog 57 #[.agg #[.int .i64 x, .int .i64 y, .int .i64 z], .int .i64 k] w fun e w' =>
      e = .returned (.tuple #[.agg #[.int .i64 (qunit (smQ x y z k)).a, .int .i64 (qunit (smQ x y z k)).b, .int .i64 (qunit (smQ x y z k)).c, .int .i64 (qunit (smQ x y z k)).d], .bool (qunitO (smQ x y z k) || smO x y z k)]) ∧ Below w.heap.size w w' := by
  have HH : Hid (∀ w, Calls Try.prog 80 #[.int .i64 k, .int .i64 1] w fun e w' => e = .returned (.int .i64 (half1 k)) ∧ w = w') := fun w => half1_all k w h1 h2
  have HU : Hid (∀ w, Calls Try.prog 49 #[.agg #[.int .i64 16777216, .int .i64 (mulQ x (half1 k)), .int .i64 (mulQ y (half1 k)), .int .i64 (mulQ z (half1 k))]] w fun e w' =>
      e = .returned (.tuple #[.agg #[.int .i64 (qunit (smQ x y z k)).a, .int .i64 (qunit (smQ x y z k)).b, .int .i64 (qunit (smQ x y z k)).c, .int .i64 (qunit (smQ x y z k)).d], .bool (qunitO (smQ x y z k))]) ∧ Below w.heap.size w w') := fun w => qunit_any w (smQ x y z k)
  obtain ⟨U, hU⟩ : ∃ U, qunit (smQ x y z k) = U := ⟨_, rfl⟩
  obtain ⟨uo, huo⟩ : ∃ U, qunitO (smQ x y z k) = U := ⟨_, rfl⟩
  unfold smO
  rw [hU, huo] at HU ⊢
  clear hU huo h1 h2
  obtain ⟨m, hm⟩ : ∃ m, half1 k = m := ⟨_, rfl⟩
  rw [hm] at HH HU ⊢
  clear hm
  obtain ⟨z0, hz0⟩ : ∃ t, mulQ x m = t := ⟨_, rfl⟩
  obtain ⟨t0, ht0⟩ : ∃ t, mulO x m = t := ⟨_, rfl⟩
  have HZ0 := Lib.hid (And.intro hz0 ht0)
  rw [hz0] at HU
  rw [ht0]
  clear hz0 ht0
  obtain ⟨z1, hz1⟩ : ∃ t, mulQ y m = t := ⟨_, rfl⟩
  obtain ⟨t1, ht1⟩ : ∃ t, mulO y m = t := ⟨_, rfl⟩
  have HZ1 := Lib.hid (And.intro hz1 ht1)
  rw [hz1] at HU
  rw [ht1]
  clear hz1 ht1
  obtain ⟨z2, hz2⟩ : ∃ t, mulQ z m = t := ⟨_, rfl⟩
  obtain ⟨t2, ht2⟩ : ∃ t, mulO z m = t := ⟨_, rfl⟩
  have HZ2 := Lib.hid (And.intro hz2 ht2)
  rw [hz2] at HU
  rw [ht2]
  clear hz2 ht2
  obtain ⟨Ua, Ub, Uc, Ud⟩ := U
  obtain ⟨n, hn⟩ : ∃ n, w.heap.size = n := ⟨_, rfl⟩
  go_enter Try.func57, Try.ntmps57
  go_upto_region 4 with (go_at_call 80; refine (HH.out _).mono ?_; rintro e v ⟨rfl, rfl⟩)
  obtain ⟨W, hW⟩ : ∃ W, W = ((((w.alloc (.cells #[.int .i64 x, .int .i64 y, .int .i64 z] 65)).alloc (row4 0 0 0 0)).alloc (.cells #[.bool false] 113)).alloc (row4 16777216 0 0 0)) := ⟨_, rfl⟩
  have hv : W.heap[n]? = some (.cells #[.int .i64 x, .int .i64 y, .int .i64 z] 65 (0, 0)) := by rw [hW, heap_old _ _ _ (by simp; omega), heap_old _ _ _ (by simp; omega), heap_old _ _ _ (by simp; omega)]; exact heap_at _ _ _ hn.symm
  have HI : Hid (InSmall w n 0 0 0 false W) := by
    rw [hW]
    refine (show InSmall _ _ _ _ _ _ _ from ⟨?_, ?_, ?_, ?_⟩)
    · exact heap_at _ _ _ (by simp; omega)
    · rw [heap_old _ _ _ (by simp; omega), heap_old _ _ _ (by simp; omega)]; exact heap_at _ _ _ (by simp; omega)
    · show _ = _
      rw [heap_old _ _ _ (by simp; omega)]; exact heap_at _ _ _ (by simp; omega)
    · rw [← hn]; exact below4 _ _ _ _ _
  unfold row4 at hW
  rw [← hW]
  clear hW
  have v0 := cell_of_row _ _ 0 _ _ _ hv
  have v1 := cell_of_row _ _ 1 _ _ _ hv
  have v2 := cell_of_row _ _ 2 _ _ _ hv
  simp only [List.getElem?_toArray, List.getElem?_cons_succ, List.getElem?_cons_zero] at v0 v1 v2
  have i0 := vidx0 x y z
  have i1 := vidx1 x y z
  have i2 := vidx2 x y z
  go_wp2_with fail
  clear v0 v1 v2 hv
  refine wp_loop_rounds 4 ?_
  rw [rounds_succ]
  go_wp2_with (first | (go_at_call 25; refine (mul_any x m _).mono ?_; rw [HZ0.out.1, HZ0.out.2]; rintro e x0 ⟨rfl, hd⟩; have HJ0 := Lib.hid (HI.out.later hd); clear hd) | (go_at_call 96; refine (one_any _ (n + 1 + 1) false t0 z0 HJ0.out.fl).mono ?_; rintro e y0 ⟨rfl, hf, hb⟩; have HK0 := Lib.hid (HJ0.out.turn hb hf); clear hf hb; have hqc0 := row4_cell HK0.out.q; have hqf0 := row4_frozen HK0.out.q))
  obtain ⟨Y0, hY0⟩ : ∃ Y, Y = y0.setCell ⟨n + 1 + 1 + 1, 1, none⟩ (.int .i64 z0) := ⟨_, rfl⟩
  rw [← hY0]
  have HL0 : Hid (InSmall w n z0 0 0 (false || t0) Y0) := by rw [hY0]; exact HK0.out.set1 z0
  clear hY0 hqc0 hqf0
  rw [rounds_succ]
  go_wp2_with (first | (go_at_call 25; refine (mul_any y m _).mono ?_; rw [HZ1.out.1, HZ1.out.2]; rintro e x1 ⟨rfl, hd⟩; have HJ1 := Lib.hid (HL0.out.later hd); clear hd) | (go_at_call 96; refine (one_any _ (n + 1 + 1) (false || t0) t1 z1 HJ1.out.fl).mono ?_; rintro e y1 ⟨rfl, hf, hb⟩; have HK1 := Lib.hid (HJ1.out.turn hb hf); clear hf hb; have hqc1 := row4_cell HK1.out.q; have hqf1 := row4_frozen HK1.out.q))
  obtain ⟨Y1, hY1⟩ : ∃ Y, Y = y1.setCell ⟨n + 1 + 1 + 1, 2, none⟩ (.int .i64 z1) := ⟨_, rfl⟩
  rw [← hY1]
  have HL1 : Hid (InSmall w n z0 z1 0 ((false || t0) || t1) Y1) := by rw [hY1]; exact HK1.out.set2 z1
  clear hY1 hqc1 hqf1
  rw [rounds_succ]
  go_wp2_with (first | (go_at_call 25; refine (mul_any z m _).mono ?_; rw [HZ2.out.1, HZ2.out.2]; rintro e x2 ⟨rfl, hd⟩; have HJ2 := Lib.hid (HL1.out.later hd); clear hd) | (go_at_call 96; refine (one_any _ (n + 1 + 1) ((false || t0) || t1) t2 z2 HJ2.out.fl).mono ?_; rintro e y2 ⟨rfl, hf, hb⟩; have HK2 := Lib.hid (HJ2.out.turn hb hf); clear hf hb; have hqc2 := row4_cell HK2.out.q; have hqf2 := row4_frozen HK2.out.q))
  obtain ⟨Y2, hY2⟩ : ∃ Y, Y = y2.setCell ⟨n + 1 + 1 + 1, 3, none⟩ (.int .i64 z2) := ⟨_, rfl⟩
  rw [← hY2]
  have HL2 : Hid (InSmall w n z0 z1 z2 (((false || t0) || t1) || t2) Y2) := by rw [hY2]; exact HK2.out.set3 z2
  clear hY2 hqc2 hqf2
  rw [rounds_succ]
  have hq := row4_cell HL2.out.q
  go_upto_region 10 with (go_at_call 49; refine (HU.out _).mono ?_; rintro e v ⟨rfl, hd⟩)
  clear hq
  obtain ⟨g, hg⟩ : ∃ g, g = v.heap.size := ⟨_, rfl⟩
  obtain ⟨V, hV⟩ : ∃ V, V = v.alloc (row4 Ua Ub Uc Ud) := ⟨_, rfl⟩
  have hVr : V.heap[g]? = some (row4 Ua Ub Uc Ud) := by rw [hV]; exact heap_at _ _ _ hg
  have HV : Hid (InSmall w n z0 z1 z2 (((false || t0) || t1) || t2) V) := by rw [hV]; exact HL2.out.later (below_al hd _)
  rw [← hg]
  unfold row4 at hV
  rw [← hV]
  clear hV hg hd
  have hgc := row4_cell hVr
  have hr := row4_cell HV.out.r
  have hrf := row4_frozen HV.out.r
  have hfc := HV.out.fl.cell
  clear hVr
  cases uo
  all_goals
    go_region
    go_wp2_with fail
    refine bodyPost_ret (results_q41 rfl _ _ (n + 1) Ua Ub Uc Ud rfl (by have h := store4 HV.out.r Ua Ub Uc Ud; exact h)) rfl ⟨?_, ?_⟩
    · simp [Bool.or_assoc]
    · rw [hn]
      exact (below_set4 HV.out.below (by omega) _ _ _ _).drew

end Go.Proofs.Ytijohedhbbddjaa
