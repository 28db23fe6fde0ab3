/- The walks of the reference's Turn and Small. -/
import Derived.Test.YtijohedhbbddjaaR43
import Derived.Test.YtijohedhbbddjaaU8
namespace Go.Proofs.Ytijohedhbbddjaa
open Go.RowKit

set_option maxRecDepth 100000 in
set_option maxHeartbeats 2000000 in
theorem rqturn_any (w : World) (q : Q4) (x y z : Int) :
    Calls Try.prog 56 #[.agg #[.int .i64 q.a, .int .i64 q.b, .int .i64 q.c, .int .i64 q.d], .agg #[.int .i64 x, .int .i64 y, .int .i64 z]] w fun e w' =>
      e = .returned (.tuple #[.agg #[.int .i64 (qturn q ⟨0, x, y, z⟩).b, .int .i64 (qturn q ⟨0, x, y, z⟩).c, .int .i64 (qturn q ⟨0, x, y, z⟩).d], .bool (qturnO q ⟨0, x, y, z⟩)]) ∧ Below w.heap.size w w' := by
  unfold qturn qturnO
  obtain ⟨A, hA⟩ : ∃ A, qmul q ⟨0, x, y, z⟩ = A := ⟨_, rfl⟩
  obtain ⟨oa, hoa⟩ : ∃ A, qmulO q ⟨0, x, y, z⟩ = A := ⟨_, rfl⟩
  have HM1 : Hid (∀ w, Calls Try.prog 46 #[.agg #[.int .i64 q.a, .int .i64 q.b, .int .i64 q.c, .int .i64 q.d], .agg #[.int .i64 0, .int .i64 x, .int .i64 y, .int .i64 z]] w fun e w' =>
      e = .returned (.tuple #[.agg #[.int .i64 A.a, .int .i64 A.b, .int .i64 A.c, .int .i64 A.d], .bool oa]) ∧ Below w.heap.size w w') := by
    intro w; rw [← hA, ← hoa]; exact rqmul_any w q ⟨0, x, y, z⟩
  rw [hA, hoa]
  clear hA hoa
  obtain ⟨K, hK⟩ : ∃ K, qconj q = K := ⟨_, rfl⟩
  have HK : Hid (∀ w, Calls Try.prog 52 #[.agg #[.int .i64 q.a, .int .i64 q.b, .int .i64 q.c, .int .i64 q.d]] w fun e w' =>
      e = .returned (.agg #[.int .i64 K.a, .int .i64 K.b, .int .i64 K.c, .int .i64 K.d]) ∧ Below w.heap.size w w') := by
    intro w; rw [← hK]; exact rqconj_any w q
  rw [hK]
  clear hK
  obtain ⟨B, hB⟩ : ∃ B, qmul A K = B := ⟨_, rfl⟩
  obtain ⟨ob, hob⟩ : ∃ B, qmulO A K = B := ⟨_, rfl⟩
  have HM2 : Hid (∀ w, Calls Try.prog 46 #[.agg #[.int .i64 A.a, .int .i64 A.b, .int .i64 A.c, .int .i64 A.d], .agg #[.int .i64 K.a, .int .i64 K.b, .int .i64 K.c, .int .i64 K.d]] w fun e w' =>
      e = .returned (.tuple #[.agg #[.int .i64 B.a, .int .i64 B.b, .int .i64 B.c, .int .i64 B.d], .bool ob]) ∧ Below w.heap.size w w') := by
    intro w; rw [← hB, ← hob]; exact rqmul_any w A K
  rw [hB, hob]
  clear hB hob
  obtain ⟨qa, qb, qc, qd⟩ := q
  obtain ⟨Aa, Ab, Ac, Ad⟩ := A
  obtain ⟨Ba, Bb, Bc, Bd⟩ := B
  obtain ⟨Ka, Kb, Kc, Kd⟩ := K
  obtain ⟨n, hn⟩ : ∃ n, w.heap.size = n := ⟨_, rfl⟩
  go_enter Try.func56, Try.ntmps56
  go_upto_region 1 with fail
  obtain ⟨W, hW⟩ : ∃ W, W = (((w.alloc (row4 qa qb qc qd)).alloc (.cells #[.int .i64 x, .int .i64 y, .int .i64 z] 65)).alloc (.cells #[.int .i64 0, .int .i64 0, .int .i64 0] 65)) := ⟨_, rfl⟩
  have hq : W.heap[n]? = some (row4 qa qb qc qd) := by rw [hW, heap_old _ _ _ (by simp; omega), heap_old _ _ _ (by simp; omega)]; exact heap_at _ _ _ hn.symm
  have hv : W.heap[n + 1]? = some (.cells #[.int .i64 x, .int .i64 y, .int .i64 z] 65 (0, 0)) := by rw [hW, heap_old _ _ _ (by simp; omega)]; exact heap_at _ _ _ (by simp; omega)
  have hr : W.heap[n + 1 + 1]? = some (.cells #[.int .i64 0, .int .i64 0, .int .i64 0] 65 (0, 0)) := by rw [hW]; exact heap_at _ _ _ (by simp; omega)
  have hBw : Hid (Below n w W) := by rw [hW, ← hn]; exact below3 _ _ _ _
  unfold row4 at hW
  rw [← hW]
  clear hW
  have hqc := row4_cell hq
  have v0 := cell_of_row _ _ 0 _ _ _ hv
  have v1 := cell_of_row _ _ 1 _ _ _ hv
  have v2 := cell_of_row _ _ 2 _ _ _ hv
  simp only [List.getElem?_toArray, List.getElem?_cons_succ, List.getElem?_cons_zero] at v0 v1 v2
  go_upto_region 2 with (go_at_call 46; refine (HM1.out _).mono ?_; rintro e u ⟨rfl, hd⟩)
  obtain ⟨g6, hg6⟩ : ∃ g, g = u.heap.size := ⟨_, rfl⟩
  obtain ⟨V, hV⟩ : ∃ V, V = u.alloc (row4 Aa Ab Ac Ad) := ⟨_, rfl⟩
  have hs1 := hd.size
  have hnW := lt_of_block hr
  have ha : V.heap[g6]? = some (row4 Aa Ab Ac Ad) := by rw [hV]; exact heap_at _ _ _ hg6
  have hdV : Below W.heap.size W V := by rw [hV]; exact below_al hd _
  have HDV := Lib.hid hdV
  have HR := Lib.hid (block_later hr hdV)
  have rA := cells_all4 ha
  have rq := cells_all4 (block_later hq hdV)
  rw [← hg6]
  unfold row4 at hV
  rw [← hV]
  clear hV hd hdV hqc v0 v1 v2 hq hv hr ha hg6 hs1
  go_cut [8, 9] (fun s8 s9 wx => ∃ g, s8 = .pointer (some ⟨g, 0, none⟩) ∧ s9 = .bool ob ∧ wx.heap[g]? = some (row4 Ba Bb Bc Bd) ∧ Below V.heap.size V wx)
  case first =>
    go_region_held3 (fun w' => Below V.heap.size V w')
      (first | assumption | exact below_drew _ | exact below_tr (by assumption) (by assumption) | exact below_tr2 (by assumption) (by assumption) | exact below_al (by assumption) _ | exact below_set4 (by assumption) (Nat.le_refl _) _ _ _ _ | exact below_set4 (by assumption) (Below.size (B := V.heap.size) (by assumption)) _ _ _ _)
      (first | (go_at_call 52; refine (HK.out _).mono ?_; rintro e w1 ⟨rfl, hb1⟩; obtain ⟨hc1, hf1⟩ := bcell hb1; have hW1 : Below V.heap.size V w1 := (by first | exact below_tr hb1 (by assumption) | exact below_tr2 hb1 (by assumption) | exact below_tr2 hb1 (below_drew _)); (try have hz1 : V.heap.size < w1.heap.size := (by have := hb1.size; simp at this; omega))) | (go_at_call 46; refine (HM2.out _).mono ?_; rintro e w2 ⟨rfl, hb2⟩; obtain ⟨hc2, hf2⟩ := bcell hb2; have hW2 : Below V.heap.size V w2 := (by first | exact below_tr2 hb2 (by assumption) | exact below_tr2 hb2 (below_al hW1 _)); (try have hz2 : w1.heap.size < w2.heap.size := (by have := hb2.size; simp at this; omega))))
    all_goals go_wp2_with fail
    all_goals go_meet
    · exact ⟨_, rfl, rfl, heap_at _ _ _ rfl, by assumption⟩
    · have hR := block_later (heap_at w1 (row4 0 0 0 0) _ rfl) hb2
      exact ⟨_, rfl, rfl, store4 hR _ _ _ _, by assumption⟩
    · have hR := block_later (block_later (heap_at V (row4 0 0 0 0) _ rfl) (below_tr2 hb1 (below_drew _))) hb2
      exact ⟨_, rfl, rfl, store4 hR _ _ _ _, by assumption⟩
  case rest =>
    obtain ⟨g, rfl, rfl, hg, hk⟩ := hcut
    have hgc := row4_cell hg
    have hrr := block_later HR.out hk
    have t0 := cell_of_row _ _ 0 _ _ _ hrr
    have t1 := cell_of_row _ _ 1 _ _ _ hrr
    have t2 := cell_of_row _ _ 2 _ _ _ hrr
    simp only [List.getElem?_toArray, List.getElem?_cons_succ, List.getElem?_cons_zero] at t0 t1 t2
    have f0 := frozen_of_row _ _ 0 _ _ hrr
    have f1 := frozen_of_row _ _ 1 _ _ hrr
    have f2 := frozen_of_row _ _ 2 _ _ hrr
    have HRR := Lib.hid hrr
    clear hrr hg
    go_wp2_with fail
    all_goals
      refine bodyPost_ret (results_v31 rfl _ _ (n + 1 + 1) Bb Bc Bd rfl (heap_store3 _ _ _ _ _ _ _ _ _ HRR.out)) rfl ⟨by simp [*], ?_⟩
      rw [hn]
      exact below_setv (hBw.out.trans ((below_trans2 HDV.out hk).mono (by omega))) (by omega) _ _ _

def smUp (a b c : Int) : Nat → Obj
  | 0 => row4 16777216 0 0 0
  | 1 => row4 16777216 a 0 0
  | 2 => row4 16777216 a b 0
  | _ => row4 16777216 a b c
def eUp (a b c : Bool) : Nat → Bool
  | 0 => false
  | 1 => a
  | 2 => a || b
  | _ => (a || b) || c

set_option maxRecDepth 100000 in
set_option maxHeartbeats 2000000 in
theorem rqsmall_any (w : World) (x y z k : Int) (h1 : -9223372036854775808 ≤ k) (h2 : k ≤ 9223372036854775807) :
    Calls Try.prog 58 #[.agg #[.int .i64 x, .int .i64 y, .int .i64 z], .int .i64 k] w fun e w' =>
      e = .returned (.tuple #[.agg #[.int .i64 (qunit (smQ x y z k)).a, .int .i64 (qunit (smQ x y z k)).b, .int .i64 (qunit (smQ x y z k)).c, .int .i64 (qunit (smQ x y z k)).d], .bool (qunitO (smQ x y z k) || smO x y z k)]) ∧ Below w.heap.size w w' := by
  have HH : Hid (∀ w, Calls Try.prog 91 #[.int .i64 k, .int .i64 1] w fun e w' => e = .returned (.int .i64 (half1 k)) ∧ w = w') := fun w => rhalf1_all k w h1 h2
  have HU : Hid (∀ w, Calls Try.prog 50 #[.agg #[.int .i64 16777216, .int .i64 (mulQ x (half1 k)), .int .i64 (mulQ y (half1 k)), .int .i64 (mulQ z (half1 k))]] w fun e w' =>
      e = .returned (.tuple #[.agg #[.int .i64 (qunit (smQ x y z k)).a, .int .i64 (qunit (smQ x y z k)).b, .int .i64 (qunit (smQ x y z k)).c, .int .i64 (qunit (smQ x y z k)).d], .bool (qunitO (smQ x y z k))]) ∧ Below w.heap.size w w') := fun w => rqunit_any w (smQ x y z k)
  obtain ⟨U, hU⟩ : ∃ U, qunit (smQ x y z k) = U := ⟨_, rfl⟩
  obtain ⟨uo, huo⟩ : ∃ U, qunitO (smQ x y z k) = U := ⟨_, rfl⟩
  unfold smO
  rw [hU, huo] at HU ⊢
  clear hU huo h1 h2
  obtain ⟨m, hm⟩ : ∃ m, half1 k = m := ⟨_, rfl⟩
  rw [hm] at HH HU ⊢
  clear hm
  obtain ⟨z0, hz0⟩ : ∃ t, mulQ x m = t := ⟨_, rfl⟩
  obtain ⟨t0, ht0⟩ : ∃ t, mulO x m = t := ⟨_, rfl⟩
  have HZ0 := Lib.hid (And.intro hz0 ht0)
  rw [hz0] at HU
  rw [ht0]
  clear hz0 ht0
  obtain ⟨z1, hz1⟩ : ∃ t, mulQ y m = t := ⟨_, rfl⟩
  obtain ⟨t1, ht1⟩ : ∃ t, mulO y m = t := ⟨_, rfl⟩
  have HZ1 := Lib.hid (And.intro hz1 ht1)
  rw [hz1] at HU
  rw [ht1]
  clear hz1 ht1
  obtain ⟨z2, hz2⟩ : ∃ t, mulQ z m = t := ⟨_, rfl⟩
  obtain ⟨t2, ht2⟩ : ∃ t, mulO z m = t := ⟨_, rfl⟩
  have HZ2 := Lib.hid (And.intro hz2 ht2)
  rw [hz2] at HU
  rw [ht2]
  clear hz2 ht2
  obtain ⟨Ua, Ub, Uc, Ud⟩ := U
  obtain ⟨n, hn⟩ : ∃ n, w.heap.size = n := ⟨_, rfl⟩
  go_enter Try.func58, Try.ntmps58
  go_upto_region 3 with (go_at_call 91; refine (HH.out _).mono ?_; rintro e v ⟨rfl, rfl⟩)
  obtain ⟨W, hW⟩ : ∃ W, W = (((w.alloc (.cells #[.int .i64 x, .int .i64 y, .int .i64 z] 65)).alloc (row4 0 0 0 0)).alloc (row4 16777216 0 0 0)) := ⟨_, rfl⟩
  have hv : W.heap[n]? = some (.cells #[.int .i64 x, .int .i64 y, .int .i64 z] 65 (0, 0)) := by rw [hW, heap_old _ _ _ (by simp; omega), heap_old _ _ _ (by simp; omega)]; exact heap_at _ _ _ hn.symm
  have hr : W.heap[n + 1]? = some (row4 0 0 0 0) := by rw [hW, heap_old _ _ _ (by simp; omega)]; exact heap_at _ _ _ (by simp; omega)
  have hq : W.heap[n + 1 + 1]? = some (row4 16777216 0 0 0) := by rw [hW]; exact heap_at _ _ _ (by simp; omega)
  have hB : Hid (Below n w W) := by rw [hW, ← hn]; exact below3 _ _ _ _
  unfold row4 at hW
  rw [← hW]
  clear hW
  have HV := Lib.hid hv
  have HR := Lib.hid hr
  have HQ := Lib.hid hq
  clear hv hr hq
  go_wp2_with fail
  go_loopg [8, 9] 3 (fun k ov iv wr => ∃ i : Nat, i ≤ 3 ∧ k = 3 - i ∧ ov = .bool (eUp t0 t1 t2 i) ∧ iv = .int .i64 i ∧ wr.heap[n]? = some (.cells #[.int .i64 x, .int .i64 y, .int .i64 z] 65 (0, 0)) ∧ wr.heap[n + 1]? = some (row4 0 0 0 0) ∧ wr.heap[n + 1 + 1]? = some (smUp z0 z1 z2 i) ∧ Below n w wr)
  case atStart => exact ⟨0, by omega, by omega, rfl, rfl, HV.out, HR.out, HQ.out, hB.out⟩
  case round =>
    clear HV HR HQ
    obtain ⟨i, hi, rfl, rfl, rfl, hv, hr, hq, hk⟩ := hrel
    have HR := Lib.hid hr
    have HQ := Lib.hid hq
    have HVv := Lib.hid hv
    have v0 := cell_of_row _ _ 0 _ _ _ hv
    have v1 := cell_of_row _ _ 1 _ _ _ hv
    have v2 := cell_of_row _ _ 2 _ _ _ hv
    simp only [List.getElem?_toArray, List.getElem?_cons_succ, List.getElem?_cons_zero] at v0 v1 v2
    clear hv hr hq
    by_cases hlt : i < 3
    · obtain (rfl | rfl | rfl) : i = 0 ∨ i = 1 ∨ i = 2 := by omega
      · clear hi hlt
        have hc0 : ((0 : Nat) : Int) = 0 := rfl
        have hoc := row4_cell HQ.out
        have hof := row4_frozen HQ.out 1
        obtain ⟨B, hB0⟩ : ∃ B, eUp t0 t1 t2 0 = B := ⟨_, rfl⟩
        rw [hB0]
        have HB0 := Lib.hid hB0
        clear hB0
        go_wp2_with (go_at_call 14; refine (rmul_any x m _).mono ?_; rw [HZ0.out.1, HZ0.out.2]; rintro e v ⟨rfl, rfl⟩)
        all_goals
          go_roundg (2)
          case measure => omega
          case rel =>
            refine ⟨1, by omega, by omega, retVB ?_, rfl, ?_, ?_, heap_setCell_same _ _ 1 _ _ (.int .i64 z0) HQ.out, hk.setCell (by show n ≤ n + 1 + 1; omega) _⟩
            · show _ = t0
              have hb := HB0.out
              simp [eUp] at hb; simp_all
            · exact (Below.heap_setCell _ _ _ _ (by show n ≠ n + 1 + 1; omega)).trans HVv.out
            · exact (Below.heap_setCell _ _ _ _ (by show n + 1 ≠ n + 1 + 1; omega)).trans HR.out
      · clear hi hlt
        have hc0 : ((1 : Nat) : Int) = 1 := rfl
        have hoc := row4_cell HQ.out
        have hof := row4_frozen HQ.out 2
        obtain ⟨B, hB0⟩ : ∃ B, eUp t0 t1 t2 1 = B := ⟨_, rfl⟩
        rw [hB0]
        have HB0 := Lib.hid hB0
        clear hB0
        go_wp2_with (go_at_call 14; refine (rmul_any y m _).mono ?_; rw [HZ1.out.1, HZ1.out.2]; rintro e v ⟨rfl, rfl⟩)
        all_goals
          go_roundg (1)
          case measure => omega
          case rel =>
            refine ⟨2, by omega, by omega, retVB ?_, rfl, ?_, ?_, heap_setCell_same _ _ 2 _ _ (.int .i64 z1) HQ.out, hk.setCell (by show n ≤ n + 1 + 1; omega) _⟩
            · show _ = (eUp t0 t1 t2 1 || t1)
              rw [HB0.out]
              simp [*]
            · exact (Below.heap_setCell _ _ _ _ (by show n ≠ n + 1 + 1; omega)).trans HVv.out
            · exact (Below.heap_setCell _ _ _ _ (by show n + 1 ≠ n + 1 + 1; omega)).trans HR.out
      · clear hi hlt
        have hc0 : ((2 : Nat) : Int) = 2 := rfl
        have hoc := row4_cell HQ.out
        have hof := row4_frozen HQ.out 3
        obtain ⟨B, hB0⟩ : ∃ B, eUp t0 t1 t2 2 = B := ⟨_, rfl⟩
        rw [hB0]
        have HB0 := Lib.hid hB0
        clear hB0
        go_wp2_with (go_at_call 14; refine (rmul_any z m _).mono ?_; rw [HZ2.out.1, HZ2.out.2]; rintro e v ⟨rfl, rfl⟩)
        all_goals
          go_roundg (0)
          case measure => omega
          case rel =>
            refine ⟨3, by omega, by omega, retVB ?_, rfl, ?_, ?_, heap_setCell_same _ _ 3 _ _ (.int .i64 z2) HQ.out, hk.setCell (by show n ≤ n + 1 + 1; omega) _⟩
            · show _ = (eUp t0 t1 t2 2 || t2)
              rw [HB0.out]
              simp [*]
            · exact (Below.heap_setCell _ _ _ _ (by show n ≠ n + 1 + 1; omega)).trans HVv.out
            · exact (Below.heap_setCell _ _ _ _ (by show n + 1 ≠ n + 1 + 1; omega)).trans HR.out
    · have h4 : i = 3 := by omega
      subst h4
      have hc0 : ((3 : Nat) : Int) = 3 := rfl
      have hoc := row4_cell HQ.out
      clear v0 v1 v2 hi hlt
      obtain ⟨B, hB0⟩ : ∃ B, eUp t0 t1 t2 3 = B := ⟨_, rfl⟩
      rw [hB0]
      have HB0 := Lib.hid hB0
      clear hB0
      go_wp2_with (go_at_call 50; refine (HU.out _).mono ?_; rintro e v ⟨rfl, hd⟩; have hrr := block_later HR.out hd; have hrc := row4_cell hrr; have hrf := row4_frozen hrr; have HRR := Lib.hid hrr; have HD := Lib.hid hd; have hz := lt_of_block hrr; clear hrr hd)
      all_goals
        have h3 := store4 HRR.out Ua Ub Uc Ud
        refine bodyPost_ret (results_q41 rfl _ _ (n + 1) Ua Ub Uc Ud rfl ((heap_old _ _ _ (by simpa using hz)).trans h3)) rfl ⟨?_, ?_⟩
        · have hb : ((t0 || t1) || t2) = B := HB0.out
          rw [hb]
          simp [*]
        · rw [hn]
          exact (below_set4 (hk.trans (HD.out.mono (by have := lt_of_block HQ.out; omega))) (by omega) _ _ _ _).alloc (by simp; omega) _

end Go.Proofs.Ytijohedhbbddjaa
