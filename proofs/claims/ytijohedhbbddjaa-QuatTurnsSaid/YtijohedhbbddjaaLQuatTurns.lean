/- The walk of the law QuatTurns. -/
import Derived.Test.YtijohedhbbddjaaR44
import Derived.Test.YtijohedhbbddjaaS4
namespace Go.Proofs.Ytijohedhbbddjaa
open Go.RowKit

def row3 (a b c : Int) : Obj := .cells #[.int .i64 a, .int .i64 b, .int .i64 c] 65 (0, 0)
theorem row3_cell {w : World} {g : Nat} {a b c : Int} (h : w.heap[g]? = some (row3 a b c)) : w.cell? ⟨g, 0, none⟩ = some (.int .i64 a) ∧ w.cell? ⟨g, 1, none⟩ = some (.int .i64 b) ∧ w.cell? ⟨g, 2, none⟩ = some (.int .i64 c) := by
  unfold row3 at h
  exact ⟨by rw [cell_of_row _ _ _ _ _ _ h]; rfl, by rw [cell_of_row _ _ _ _ _ _ h]; rfl, by rw [cell_of_row _ _ _ _ _ _ h]; rfl⟩
theorem cells_all3 {w : World} {g : Nat} {a b c : Int} (h : w.heap[g]? = some (row3 a b c)) :
    (∀ w', Below w.heap.size w w' → w'.cell? ⟨g, 0, none⟩ = some (.int .i64 a)) ∧ (∀ w', Below w.heap.size w w' → w'.cell? ⟨g, 1, none⟩ = some (.int .i64 b)) ∧ (∀ w', Below w.heap.size w w' → w'.cell? ⟨g, 2, none⟩ = some (.int .i64 c)) :=
  ⟨fun _ hb => (row3_cell (block_later h hb)).1, fun _ hb => (row3_cell (block_later h hb)).2.1, fun _ hb => (row3_cell (block_later h hb)).2.2⟩

set_option maxRecDepth 100000 in
set_option maxHeartbeats 4000000 in
theorem quatTurns_any (w : World) (q : Q4) (x y z k : Int) (h1 : -9223372036854775808 ≤ k) (h2 : k ≤ 9223372036854775807) :
    Calls Try.prog 9 #[.agg #[.int .i64 q.a, .int .i64 q.b, .int .i64 q.c, .int .i64 q.d], .agg #[.int .i64 x, .int .i64 y, .int .i64 z], .int .i64 k] w fun e w' => e = .returned (.bool true) ∧ Below w.heap.size w w' := by
  obtain ⟨T, hT⟩ : ∃ T, qturn q ⟨0, x, y, z⟩ = T := ⟨_, rfl⟩
  obtain ⟨tod, hto⟩ : ∃ T, qturnO q ⟨0, x, y, z⟩ = T := ⟨_, rfl⟩
  obtain ⟨U, hU⟩ : ∃ T, qunit (smQ x y z k) = T := ⟨_, rfl⟩
  obtain ⟨uo, huo⟩ : ∃ T, (qunitO (smQ x y z k) || smO x y z k) = T := ⟨_, rfl⟩
  have HT : Hid (∀ w, Calls Try.prog 55 #[.agg #[.int .i64 q.a, .int .i64 q.b, .int .i64 q.c, .int .i64 q.d], .agg #[.int .i64 x, .int .i64 y, .int .i64 z]] w fun e w' => e = .returned (.tuple #[.agg #[.int .i64 T.b, .int .i64 T.c, .int .i64 T.d], .bool tod]) ∧ Below w.heap.size w w') := by
    intro w; rw [← hT, ← hto]; exact qturn_any w q x y z
  have HT2 : Hid (∀ w, Calls Try.prog 56 #[.agg #[.int .i64 q.a, .int .i64 q.b, .int .i64 q.c, .int .i64 q.d], .agg #[.int .i64 x, .int .i64 y, .int .i64 z]] w fun e w' => e = .returned (.tuple #[.agg #[.int .i64 T.b, .int .i64 T.c, .int .i64 T.d], .bool tod]) ∧ Below w.heap.size w w') := by
    intro w; rw [← hT, ← hto]; exact rqturn_any w q x y z
  have HU : Hid (∀ w, Calls Try.prog 57 #[.agg #[.int .i64 x, .int .i64 y, .int .i64 z], .int .i64 k] w fun e w' => e = .returned (.tuple #[.agg #[.int .i64 U.a, .int .i64 U.b, .int .i64 U.c, .int .i64 U.d], .bool uo]) ∧ Below w.heap.size w w') := by
    intro w; rw [← hU, ← huo]; exact qsmall_any w x y z k h1 h2
  have HU2 : Hid (∀ w, Calls Try.prog 58 #[.agg #[.int .i64 x, .int .i64 y, .int .i64 z], .int .i64 k] w fun e w' => e = .returned (.tuple #[.agg #[.int .i64 U.a, .int .i64 U.b, .int .i64 U.c, .int .i64 U.d], .bool uo]) ∧ Below w.heap.size w w') := by
    intro w; rw [← hU, ← huo]; exact rqsmall_any w x y z k h1 h2
  clear hT hto hU huo h1 h2
  obtain ⟨qa, qb, qc, qd⟩ := q
  obtain ⟨Ta, Tb, Tc, Td⟩ := T
  obtain ⟨Ua, Ub, Uc, Ud⟩ := U
  obtain ⟨n, hn⟩ : ∃ n, w.heap.size = n := ⟨_, rfl⟩
  go_enter Try.func9, Try.ntmps9
  go_upto_region 1 with fail
  obtain ⟨W, hW⟩ : ∃ W, W = ((w.alloc (row4 qa qb qc qd)).alloc (row3 x y z)) := ⟨_, rfl⟩
  have hp : W.heap[n]? = some (row4 qa qb qc qd) := by rw [hW, heap_old _ _ _ (by simp; omega)]; exact heap_at _ _ _ hn.symm
  have hq : W.heap[n + 1]? = some (row3 x y z) := by rw [hW]; exact heap_at _ _ _ (by simp; omega)
  have hB : Hid (Below w.heap.size w W) := by rw [hW]; exact below2 _ _ _
  unfold row4 row3 at hW
  rw [← hW]
  clear hW
  have rp := cells_all4 hp
  have rq := cells_all3 hq
  clear hp hq
  go_upto_region 2 with (go_at_call 44; refine (shown4_any _).mono ?_; rintro e v0 ⟨rfl, hd0⟩)
  have hT0 := hd0
  clear hd0
  go_upto_region 3 with (go_at_call 55; refine (HT.out _).mono ?_; rintro e v1 ⟨rfl, hd1⟩)
  obtain ⟨g1, hg1⟩ : ∃ g, g = v1.heap.size := ⟨_, rfl⟩
  obtain ⟨V1, hV1⟩ : ∃ V, V = v1.alloc (row3 Tb Tc Td) := ⟨_, rfl⟩
  have hr1 : V1.heap[g1]? = some (row3 Tb Tc Td) := by rw [hV1]; exact heap_at _ _ _ hg1
  have hS1 : Below v0.heap.size v0 V1 := by rw [hV1]; exact below_al hd1 _
  have hT1 := below_trans2 hT0 hS1
  rw [← hg1]
  unfold row3 at hV1
  rw [← hV1]
  have HS1 := Lib.hid hS1
  have HX1 := Lib.hid hr1
  clear hV1 hg1 hd1 hS1 hr1 hT0
  go_upto_region 4 with (go_at_call 56; refine (HT2.out _).mono ?_; rintro e v2 ⟨rfl, hd2⟩)
  obtain ⟨g2, hg2⟩ : ∃ g, g = v2.heap.size := ⟨_, rfl⟩
  obtain ⟨V2, hV2⟩ : ∃ V, V = v2.alloc (row3 Tb Tc Td) := ⟨_, rfl⟩
  have hr2 : V2.heap[g2]? = some (row3 Tb Tc Td) := by rw [hV2]; exact heap_at _ _ _ hg2
  have hS2 : Below V1.heap.size V1 V2 := by rw [hV2]; exact below_al hd2 _
  have hT2 := below_trans2 hT1 hS2
  rw [← hg2]
  unfold row3 at hV2
  rw [← hV2]
  have HS2 := Lib.hid hS2
  have HX2 := Lib.hid hr2
  clear hV2 hg2 hd2 hS2 hr2 hT1
  go_upto_region 5 with (go_at_call 57; refine (HU.out _).mono ?_; rintro e v3 ⟨rfl, hd3⟩)
  obtain ⟨g3, hg3⟩ : ∃ g, g = v3.heap.size := ⟨_, rfl⟩
  obtain ⟨V3, hV3⟩ : ∃ V, V = v3.alloc (row4 Ua Ub Uc Ud) := ⟨_, rfl⟩
  have hr3 : V3.heap[g3]? = some (row4 Ua Ub Uc Ud) := by rw [hV3]; exact heap_at _ _ _ hg3
  have hS3 : Below V2.heap.size V2 V3 := by rw [hV3]; exact below_al hd3 _
  have hT3 := below_trans2 hT2 hS3
  rw [← hg3]
  unfold row4 at hV3
  rw [← hV3]
  have HS3 := Lib.hid hS3
  have HX3 := Lib.hid hr3
  clear hV3 hg3 hd3 hS3 hr3 hT2
  go_upto_region 6 with (go_at_call 58; refine (HU2.out _).mono ?_; rintro e v4 ⟨rfl, hd4⟩)
  obtain ⟨g4, hg4⟩ : ∃ g, g = v4.heap.size := ⟨_, rfl⟩
  obtain ⟨V4, hV4⟩ : ∃ V, V = v4.alloc (row4 Ua Ub Uc Ud) := ⟨_, rfl⟩
  have hr4 : V4.heap[g4]? = some (row4 Ua Ub Uc Ud) := by rw [hV4]; exact heap_at _ _ _ hg4
  have hS4 : Below V3.heap.size V3 V4 := by rw [hV4]; exact below_al hd4 _
  have hT4 := below_trans2 hT3 hS4
  rw [← hg4]
  unfold row4 at hV4
  rw [← hV4]
  have HS4 := Lib.hid hS4
  have HX4 := Lib.hid hr4
  clear hV4 hg4 hd4 hS4 hr4 hT3
  have U3 := HS4.out
  have U2 := below_trans2 HS3.out HS4.out
  have U1 := below_trans2 HS2.out U2
  have m1 := row3_cell (block_later HX1.out U1)
  have m2 := row3_cell (block_later HX2.out U2)
  have u1 := row4_cell (block_later HX3.out U3)
  have u2 := row4_cell HX4.out
  have HT4 := Lib.hid hT4
  clear U1 U2 U3 rp rq hT4
  have eT := eqV_self Tb Tc Td
  have eU := eqQ_self Ua Ub Uc Ud
  go_wp2_with fail
  go_ret
  exact ⟨rfl, below_trans2 hB.out HT4.out⟩

end Go.Proofs.Ytijohedhbbddjaa
