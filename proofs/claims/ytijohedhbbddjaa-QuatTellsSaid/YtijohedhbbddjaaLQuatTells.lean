/- The walk of the law QuatTells. -/
import Derived.Test.YtijohedhbbddjaaR43
import Derived.Test.YtijohedhbbddjaaS4
namespace Go.Proofs.Ytijohedhbbddjaa
open Go.RowKit

set_option maxRecDepth 100000 in
set_option maxHeartbeats 4000000 in
theorem quatTells_any (w : World) (p q : Q4) :
    Calls Try.prog 8 #[.agg #[.int .i64 p.a, .int .i64 p.b, .int .i64 p.c, .int .i64 p.d], .agg #[.int .i64 q.a, .int .i64 q.b, .int .i64 q.c, .int .i64 q.d]] w fun e w' => e = .returned (.bool true) ∧ Below w.heap.size w w' := by
  obtain ⟨M, hM⟩ : ∃ z, qmul p q = z := ⟨_, rfl⟩
  obtain ⟨mo, hmo⟩ : ∃ z, qmulO p q = z := ⟨_, rfl⟩
  obtain ⟨U, hU⟩ : ∃ z, qunit p = z := ⟨_, rfl⟩
  obtain ⟨uo, huo⟩ : ∃ z, qunitO p = z := ⟨_, rfl⟩
  obtain ⟨nn, hnn⟩ : ∃ z, qnorm p = z := ⟨_, rfl⟩
  obtain ⟨no, hno⟩ : ∃ z, qnormO p = z := ⟨_, rfl⟩
  obtain ⟨K, hK⟩ : ∃ z, qconj p = z := ⟨_, rfl⟩
  obtain ⟨R, hR⟩ : ∃ z, qright p = z := ⟨_, rfl⟩
  have HM : Hid (∀ w, Calls Try.prog 45 #[.agg #[.int .i64 p.a, .int .i64 p.b, .int .i64 p.c, .int .i64 p.d], .agg #[.int .i64 q.a, .int .i64 q.b, .int .i64 q.c, .int .i64 q.d]] w fun e w' => e = .returned (.tuple #[.agg #[.int .i64 M.a, .int .i64 M.b, .int .i64 M.c, .int .i64 M.d], .bool mo]) ∧ Below w.heap.size w w') := by
    intro w; rw [← hM, ← hmo]; exact qmul_any w p q
  have HM2 : Hid (∀ w, Calls Try.prog 46 #[.agg #[.int .i64 p.a, .int .i64 p.b, .int .i64 p.c, .int .i64 p.d], .agg #[.int .i64 q.a, .int .i64 q.b, .int .i64 q.c, .int .i64 q.d]] w fun e w' => e = .returned (.tuple #[.agg #[.int .i64 M.a, .int .i64 M.b, .int .i64 M.c, .int .i64 M.d], .bool mo]) ∧ Below w.heap.size w w') := by
    intro w; rw [← hM, ← hmo]; exact rqmul_any w p q
  have HN : Hid (∀ w, Calls Try.prog 47 #[.agg #[.int .i64 p.a, .int .i64 p.b, .int .i64 p.c, .int .i64 p.d]] w fun e w' => e = .returned (.tuple #[.int .i64 nn, .bool no]) ∧ Below w.heap.size w w') := by
    intro w; rw [← hnn, ← hno]; exact qnorm_any w p
  have HN2 : Hid (∀ w, Calls Try.prog 48 #[.agg #[.int .i64 p.a, .int .i64 p.b, .int .i64 p.c, .int .i64 p.d]] w fun e w' => e = .returned (.tuple #[.int .i64 nn, .bool no]) ∧ Below w.heap.size w w') := by
    intro w; rw [← hnn, ← hno]; exact rqnorm_any w p
  have HU : Hid (∀ w, Calls Try.prog 49 #[.agg #[.int .i64 p.a, .int .i64 p.b, .int .i64 p.c, .int .i64 p.d]] w fun e w' => e = .returned (.tuple #[.agg #[.int .i64 U.a, .int .i64 U.b, .int .i64 U.c, .int .i64 U.d], .bool uo]) ∧ Below w.heap.size w w') := by
    intro w; rw [← hU, ← huo]; exact qunit_any w p
  have HU2 : Hid (∀ w, Calls Try.prog 50 #[.agg #[.int .i64 p.a, .int .i64 p.b, .int .i64 p.c, .int .i64 p.d]] w fun e w' => e = .returned (.tuple #[.agg #[.int .i64 U.a, .int .i64 U.b, .int .i64 U.c, .int .i64 U.d], .bool uo]) ∧ Below w.heap.size w w') := by
    intro w; rw [← hU, ← huo]; exact rqunit_any w p
  have HK : Hid (∀ w, Calls Try.prog 51 #[.agg #[.int .i64 p.a, .int .i64 p.b, .int .i64 p.c, .int .i64 p.d]] w fun e w' => e = .returned (.agg #[.int .i64 K.a, .int .i64 K.b, .int .i64 K.c, .int .i64 K.d]) ∧ Below w.heap.size w w') := by
    intro w; rw [← hK]; exact qconj_any w p
  have HK2 : Hid (∀ w, Calls Try.prog 52 #[.agg #[.int .i64 p.a, .int .i64 p.b, .int .i64 p.c, .int .i64 p.d]] w fun e w' => e = .returned (.agg #[.int .i64 K.a, .int .i64 K.b, .int .i64 K.c, .int .i64 K.d]) ∧ Below w.heap.size w w') := by
    intro w; rw [← hK]; exact rqconj_any w p
  have HR : Hid (∀ w, Calls Try.prog 53 #[.agg #[.int .i64 p.a, .int .i64 p.b, .int .i64 p.c, .int .i64 p.d]] w fun e w' => e = .returned (.bool R) ∧ Below w.heap.size w w') := by
    intro w; rw [← hR]; exact qright_any w p
  have HR2 : Hid (∀ w, Calls Try.prog 54 #[.agg #[.int .i64 p.a, .int .i64 p.b, .int .i64 p.c, .int .i64 p.d]] w fun e w' => e = .returned (.bool R) ∧ Below w.heap.size w w') := by
    intro w; rw [← hR]; exact rqright_any w p
  clear hM hmo hU huo hnn hno hK hR
  obtain ⟨pa, pb, pc, pd⟩ := p
  obtain ⟨qa, qb, qc, qd⟩ := q
  obtain ⟨Ma, Mb, Mc, Md⟩ := M
  obtain ⟨Ua, Ub, Uc, Ud⟩ := U
  obtain ⟨Ka, Kb, Kc, Kd⟩ := K
  obtain ⟨n, hn⟩ : ∃ n, w.heap.size = n := ⟨_, rfl⟩
  go_enter Try.func8, Try.ntmps8
  go_upto_region 1 with fail
  obtain ⟨W, hW⟩ : ∃ W, W = ((w.alloc (row4 pa pb pc pd)).alloc (row4 qa qb qc qd)) := ⟨_, rfl⟩
  have hp : W.heap[n]? = some (row4 pa pb pc pd) := by rw [hW, heap_old _ _ _ (by simp; omega)]; exact heap_at _ _ _ hn.symm
  have hq : W.heap[n + 1]? = some (row4 qa qb qc qd) := by rw [hW]; exact heap_at _ _ _ (by simp; omega)
  have hB : Hid (Below w.heap.size w W) := by rw [hW]; exact below2 _ _ _
  unfold row4 at hW
  rw [← hW]
  clear hW
  have rp := cells_all4 hp
  have rq := cells_all4 hq
  clear hp hq
  go_upto_region 2 with (go_at_call 44; refine (shown4_any _).mono ?_; rintro e v0 ⟨rfl, hd0⟩)
  have hT0 := hd0
  clear hd0
  go_upto_region 3 with (go_at_call 45; refine (HM.out _).mono ?_; rintro e v1 ⟨rfl, hd1⟩)
  obtain ⟨g1, hg1⟩ : ∃ g, g = v1.heap.size := ⟨_, rfl⟩
  obtain ⟨V1, hV1⟩ : ∃ V, V = v1.alloc (row4 Ma Mb Mc Md) := ⟨_, rfl⟩
  have hr1 : V1.heap[g1]? = some (row4 Ma Mb Mc Md) := by rw [hV1]; exact heap_at _ _ _ hg1
  have hS1 : Below v0.heap.size v0 V1 := by rw [hV1]; exact below_al hd1 _
  have hT1 := below_trans2 hT0 hS1
  rw [← hg1]
  unfold row4 at hV1
  rw [← hV1]
  have HS1 := Lib.hid hS1
  have HX1 := Lib.hid hr1
  clear hV1 hg1 hd1 hS1 hr1 hT0
  go_upto_region 4 with (go_at_call 46; refine (HM2.out _).mono ?_; rintro e v2 ⟨rfl, hd2⟩)
  obtain ⟨g2, hg2⟩ : ∃ g, g = v2.heap.size := ⟨_, rfl⟩
  obtain ⟨V2, hV2⟩ : ∃ V, V = v2.alloc (row4 Ma Mb Mc Md) := ⟨_, rfl⟩
  have hr2 : V2.heap[g2]? = some (row4 Ma Mb Mc Md) := by rw [hV2]; exact heap_at _ _ _ hg2
  have hS2 : Below V1.heap.size V1 V2 := by rw [hV2]; exact below_al hd2 _
  have hT2 := below_trans2 hT1 hS2
  rw [← hg2]
  unfold row4 at hV2
  rw [← hV2]
  have HS2 := Lib.hid hS2
  have HX2 := Lib.hid hr2
  clear hV2 hg2 hd2 hS2 hr2 hT1
  go_upto_region 6 with (first | (go_at_call 47; refine (HN.out _).mono ?_; rintro e v3 ⟨rfl, hd3⟩; have hT3 := below_trans2 hT2 hd3) | (go_at_call 48; refine (HN2.out _).mono ?_; rintro e v4 ⟨rfl, hd4⟩; have hT4 := below_trans2 hT3 hd4))
  have HD4 := Lib.hid (below_trans2 hd3 hd4)
  clear hT2 hT3 hd3 hd4
  go_upto_region 7 with (go_at_call 49; refine (HU.out _).mono ?_; rintro e v5 ⟨rfl, hd5⟩)
  obtain ⟨g5, hg5⟩ : ∃ g, g = v5.heap.size := ⟨_, rfl⟩
  obtain ⟨V5, hV5⟩ : ∃ V, V = v5.alloc (row4 Ua Ub Uc Ud) := ⟨_, rfl⟩
  have hr5 : V5.heap[g5]? = some (row4 Ua Ub Uc Ud) := by rw [hV5]; exact heap_at _ _ _ hg5
  have hS5 : Below v4.heap.size v4 V5 := by rw [hV5]; exact below_al hd5 _
  have hT5 := below_trans2 hT4 hS5
  rw [← hg5]
  unfold row4 at hV5
  rw [← hV5]
  have HS5 := Lib.hid hS5
  have HX5 := Lib.hid hr5
  clear hV5 hg5 hd5 hS5 hr5 hT4
  go_upto_region 8 with (go_at_call 50; refine (HU2.out _).mono ?_; rintro e v6 ⟨rfl, hd6⟩)
  obtain ⟨g6, hg6⟩ : ∃ g, g = v6.heap.size := ⟨_, rfl⟩
  obtain ⟨V6, hV6⟩ : ∃ V, V = v6.alloc (row4 Ua Ub Uc Ud) := ⟨_, rfl⟩
  have hr6 : V6.heap[g6]? = some (row4 Ua Ub Uc Ud) := by rw [hV6]; exact heap_at _ _ _ hg6
  have hS6 : Below V5.heap.size V5 V6 := by rw [hV6]; exact below_al hd6 _
  have hT6 := below_trans2 hT5 hS6
  rw [← hg6]
  unfold row4 at hV6
  rw [← hV6]
  have HS6 := Lib.hid hS6
  have HX6 := Lib.hid hr6
  clear hV6 hg6 hd6 hS6 hr6 hT5
  have U5 := HS6.out
  have U2 := below_trans2 (below_trans2 HD4.out HS5.out) HS6.out
  have U1 := below_trans2 HS2.out U2
  have m1 := cells_all4 (block_later HX1.out U1)
  have m2 := cells_all4 (block_later HX2.out U2)
  have u1 := cells_all4 (block_later HX5.out U5)
  have u2 := cells_all4 HX6.out
  have s0 := fun w' h => rp.1 w' (below_trans2 hT6 h)
  have s1 := fun w' h => rp.2.1 w' (below_trans2 hT6 h)
  have s2 := fun w' h => rp.2.2.1 w' (below_trans2 hT6 h)
  have s3 := fun w' h => rp.2.2.2 w' (below_trans2 hT6 h)
  have HT6 := Lib.hid hT6
  clear U1 U2 U5 rp rq hT6
  have eM := eqQ_self Ma Mb Mc Md
  have eU := eqQ_self Ua Ub Uc Ud
  have eK := eqQ_self Ka Kb Kc Kd
  first | (go_region_held3 (fun w' => Below V6.heap.size V6 w') (first | assumption | exact below_drew _ | exact Below.drew (by assumption) | exact below_tr (by assumption) (by assumption) | exact below_tr2 (by assumption) (by assumption)) (first | (go_at_call 51; refine (HK.out _).mono ?_; rintro e w' ⟨rfl, hb⟩; have hk : Below V6.heap.size V6 w' := (by first | exact hb | exact below_tr2 hb (by assumption) | exact below_trans2 (below_drew _) hb | exact below_tr2 hb (Below.drew (by assumption)))) | (go_at_call 52; refine (HK2.out _).mono ?_; rintro e w' ⟨rfl, hb⟩; have hk : Below V6.heap.size V6 w' := (by first | exact hb | exact below_tr2 hb (by assumption) | exact below_trans2 (below_drew _) hb | exact below_tr2 hb (Below.drew (by assumption)))) | (go_at_call 53; refine (HR.out _).mono ?_; rintro e w' ⟨rfl, hb⟩; have hk : Below V6.heap.size V6 w' := (by first | exact hb | exact below_tr2 hb (by assumption) | exact below_trans2 (below_drew _) hb | exact below_tr2 hb (Below.drew (by assumption)))) | (go_at_call 54; refine (HR2.out _).mono ?_; rintro e w' ⟨rfl, hb⟩; have hk : Below V6.heap.size V6 w' := (by first | exact hb | exact below_tr2 hb (by assumption) | exact below_trans2 (below_drew _) hb | exact below_tr2 hb (Below.drew (by assumption)))))) | fail
  all_goals
    go_wp2_with fail
    go_ret
    exact ⟨rfl, below_trans2 (below_trans2 hB.out HT6.out) (by assumption)⟩

end Go.Proofs.Ytijohedhbbddjaa
