/- The walk of quat.Turn. -/
import Derived.Test.YtijohedhbbddjaaU6
import Derived.Deep.CutBlock
import Derived.Deep.DeepCutAuto
namespace Go.Proofs.Ytijohedhbbddjaa
open Go.RowKit

def qturn (q v : Q4) : Q4 := qmul (qmul q v) (qconj q)
def qturnO (q v : Q4) : Bool := qmulO q v || qmulO (qmul q v) (qconj q)
theorem cells_all4 {w : World} {g : Nat} {a b c d : Int} (h : w.heap[g]? = some (row4 a b c d)) :
    (∀ w', Below w.heap.size w w' → w'.cell? ⟨g, 0, none⟩ = some (.int .i64 a)) ∧ (∀ w', Below w.heap.size w w' → w'.cell? ⟨g, 1, none⟩ = some (.int .i64 b)) ∧ (∀ w', Below w.heap.size w w' → w'.cell? ⟨g, 2, none⟩ = some (.int .i64 c)) ∧ (∀ w', Below w.heap.size w w' → w'.cell? ⟨g, 3, none⟩ = some (.int .i64 d)) :=
  ⟨fun _ hb => (row4_cell (block_later h hb)).1, fun _ hb => (row4_cell (block_later h hb)).2.1, fun _ hb => (row4_cell (block_later h hb)).2.2.1, fun _ hb => (row4_cell (block_later h hb)).2.2.2⟩
theorem below_setv {B : Nat} {w w1 : World} {g : Nat} (h : Below B w w1) (hg : B ≤ g) (x y z : Value) : Below B w (((w1.setCell ⟨g, 0, none⟩ x).setCell ⟨g, 1, none⟩ y).setCell ⟨g, 2, none⟩ z) :=
  ((h.setCell hg _).setCell hg _).setCell hg _
theorem results_v31 {fn : Func} {p u : Tmp} (h : fn.results = #[.cell p 65, .tmp u]) (tmps : Array Value) (w : World) (g : Nat) (a b c : Int) (hp : tmps.getD p undef = .pointer (some ⟨g, 0, none⟩)) (hg : w.heap[g]? = some (.cells #[.int .i64 a, .int .i64 b, .int .i64 c] 65 (0, 0))) :
    (results fn tmps).run Try.prog w = .ok (.tuple #[.agg #[.int .i64 a, .int .i64 b, .int .i64 c], tmps.getD u undef]) w :=
  results_row1 h tmps w g _ _ _ _ hp hg Try.underlying65 rfl (by kernel_rfl)

set_option maxRecDepth 100000 in
set_option maxHeartbeats 2000000 in
theorem qturn_any (w : World) (q : Q4) (x y z : Int) :
    Calls Try.prog 55 #[.agg #[.int .i64 q.a, .int .i64 q.b, .int .i64 q.c, .int .i64 q.d], .agg #[.int .i64 x, .int .i64 y, .int .i64 z]] w fun e w' =>
      e = .returned (.tuple #[.agg #[.int .i64 (qturn q ⟨0, x, y, z⟩).b, .int .i64 (qturn q ⟨0, x, y, z⟩).c, .int .i64 (qturn q ⟨0, x, y, z⟩).d], .bool (qturnO q ⟨0, x, y, z⟩)]) ∧ Below w.heap.size w w' := by
  unfold qturn qturnO
  obtain ⟨A, hA⟩ : ∃ A, qmul q ⟨0, x, y, z⟩ = A := ⟨_, rfl⟩
  obtain ⟨oa, hoa⟩ : ∃ A, qmulO q ⟨0, x, y, z⟩ = A := ⟨_, rfl⟩
  have HM1 : Hid (∀ w, Calls Try.prog 45 #[.agg #[.int .i64 q.a, .int .i64 q.b, .int .i64 q.c, .int .i64 q.d], .agg #[.int .i64 0, .int .i64 x, .int .i64 y, .int .i64 z]] w fun e w' =>
      e = .returned (.tuple #[.agg #[.int .i64 A.a, .int .i64 A.b, .int .i64 A.c, .int .i64 A.d], .bool oa]) ∧ Below w.heap.size w w') := by
    intro w; rw [← hA, ← hoa]; exact qmul_any w q ⟨0, x, y, z⟩
  rw [hA, hoa]
  clear hA hoa
  obtain ⟨K, hK⟩ : ∃ K, qconj q = K := ⟨_, rfl⟩
  have HK : Hid (∀ w, Calls Try.prog 51 #[.agg #[.int .i64 q.a, .int .i64 q.b, .int .i64 q.c, .int .i64 q.d]] w fun e w' =>
      e = .returned (.agg #[.int .i64 K.a, .int .i64 K.b, .int .i64 K.c, .int .i64 K.d]) ∧ Below w.heap.size w w') := by
    intro w; rw [← hK]; exact qconj_any w q
  rw [hK]
  clear hK
  obtain ⟨B, hB⟩ : ∃ B, qmul A K = B := ⟨_, rfl⟩
  obtain ⟨ob, hob⟩ : ∃ B, qmulO A K = B := ⟨_, rfl⟩
  have HM2 : Hid (∀ w, Calls Try.prog 45 #[.agg #[.int .i64 A.a, .int .i64 A.b, .int .i64 A.c, .int .i64 A.d], .agg #[.int .i64 K.a, .int .i64 K.b, .int .i64 K.c, .int .i64 K.d]] w fun e w' =>
      e = .returned (.tuple #[.agg #[.int .i64 B.a, .int .i64 B.b, .int .i64 B.c, .int .i64 B.d], .bool ob]) ∧ Below w.heap.size w w') := by
    intro w; rw [← hB, ← hob]; exact qmul_any w A K
  rw [hB, hob]
  clear hB hob
  obtain ⟨qa, qb, qc, qd⟩ := q
  obtain ⟨Aa, Ab, Ac, Ad⟩ := A
  obtain ⟨Ba, Bb, Bc, Bd⟩ := B
  obtain ⟨Ka, Kb, Kc, Kd⟩ := K
  obtain ⟨n, hn⟩ : ∃ n, w.heap.size = n := ⟨_, rfl⟩
  go_enter Try.func55, Try.ntmps55
  go_upto_region 1 with fail
  obtain ⟨W, hW⟩ : ∃ W, W = (((w.alloc (row4 qa qb qc qd)).alloc (.cells #[.int .i64 x, .int .i64 y, .int .i64 z] 65)).alloc (.cells #[.int .i64 0, .int .i64 0, .int .i64 0] 65)) := ⟨_, rfl⟩
  have hq : W.heap[n]? = some (row4 qa qb qc qd) := by rw [hW, heap_old _ _ _ (by simp; omega), heap_old _ _ _ (by simp; omega)]; exact heap_at _ _ _ hn.symm
  have hv : W.heap[n + 1]? = some (.cells #[.int .i64 x, .int .i64 y, .int .i64 z] 65 (0, 0)) := by rw [hW, heap_old _ _ _ (by simp; omega)]; exact heap_at _ _ _ (by simp; omega)
  have hr : W.heap[n + 1 + 1]? = some (.cells #[.int .i64 0, .int .i64 0, .int .i64 0] 65 (0, 0)) := by rw [hW]; exact heap_at _ _ _ (by simp; omega)
  have hBw : Hid (Below n w W) := by rw [hW, ← hn]; exact below3 _ _ _ _
  unfold row4 at hW
  rw [← hW]
  clear hW
  have hqc := row4_cell hq
  have v0 := cell_of_row _ _ 0 _ _ _ hv
  have v1 := cell_of_row _ _ 1 _ _ _ hv
  have v2 := cell_of_row _ _ 2 _ _ _ hv
  simp only [List.getElem?_toArray, List.getElem?_cons_succ, List.getElem?_cons_zero] at v0 v1 v2
  go_upto_region 2 with (go_at_call 45; refine (HM1.out _).mono ?_; rintro e u ⟨rfl, hd⟩)
  obtain ⟨g6, hg6⟩ : ∃ g, g = u.heap.size := ⟨_, rfl⟩
  obtain ⟨V, hV⟩ : ∃ V, V = u.alloc (row4 Aa Ab Ac Ad) := ⟨_, rfl⟩
  have hs1 := hd.size
  have hnW := lt_of_block hr
  have ha : V.heap[g6]? = some (row4 Aa Ab Ac Ad) := by rw [hV]; exact heap_at _ _ _ hg6
  have hdV : Below W.heap.size W V := by rw [hV]; exact below_al hd _
  have HDV := Lib.hid hdV
  have HR := Lib.hid (block_later hr hdV)
  have rA := cells_all4 ha
  have rq := cells_all4 (block_later hq hdV)
  rw [← hg6]
  unfold row4 at hV
  rw [← hV]
  clear hV hd hdV hqc v0 v1 v2 hq hv hr ha hg6 hs1
  go_cut [8, 9] (fun s8 s9 wx => ∃ g, s8 = .pointer (some ⟨g, 0, none⟩) ∧ s9 = .bool ob ∧ wx.heap[g]? = some (row4 Ba Bb Bc Bd) ∧ Below V.heap.size V wx)
  case first =>
    go_region_held3 (fun w' => Below V.heap.size V w')
      (first | assumption | exact below_drew _ | exact below_tr (by assumption) (by assumption) | exact below_tr2 (by assumption) (by assumption) | exact below_al (by assumption) _ | exact below_set4 (by assumption) (Nat.le_refl _) _ _ _ _ | exact below_set4 (by assumption) (Below.size (B := V.heap.size) (by assumption)) _ _ _ _)
      (first | (go_at_call 51; refine (HK.out _).mono ?_; rintro e w1 ⟨rfl, hb1⟩; obtain ⟨hc1, hf1⟩ := bcell hb1; have hW1 : Below V.heap.size V w1 := (by first | exact below_tr hb1 (by assumption) | exact below_tr2 hb1 (by assumption) | exact below_tr2 hb1 (below_drew _)); (try have hz1 : V.heap.size < w1.heap.size := (by have := hb1.size; simp at this; omega))) | (go_at_call 45; refine (HM2.out _).mono ?_; rintro e w2 ⟨rfl, hb2⟩; obtain ⟨hc2, hf2⟩ := bcell hb2; have hW2 : Below V.heap.size V w2 := (by first | exact below_tr2 hb2 (by assumption) | exact below_tr2 hb2 (below_al hW1 _)); (try have hz2 : w1.heap.size < w2.heap.size := (by have := hb2.size; simp at this; omega))))
    all_goals go_wp2_with fail
    all_goals go_meet
    · exact ⟨_, rfl, rfl, heap_at _ _ _ rfl, by assumption⟩
    · have hR := block_later (heap_at w1 (row4 0 0 0 0) _ rfl) hb2
      exact ⟨_, rfl, rfl, store4 hR _ _ _ _, by assumption⟩
    · have hR := block_later (block_later (heap_at V (row4 0 0 0 0) _ rfl) (below_tr2 hb1 (below_drew _))) hb2
      exact ⟨_, rfl, rfl, store4 hR _ _ _ _, by assumption⟩
  case rest =>
    obtain ⟨g, rfl, rfl, hg, hk⟩ := hcut
    have hgc := row4_cell hg
    have hrr := block_later HR.out hk
    have t0 := cell_of_row _ _ 0 _ _ _ hrr
    have t1 := cell_of_row _ _ 1 _ _ _ hrr
    have t2 := cell_of_row _ _ 2 _ _ _ hrr
    simp only [List.getElem?_toArray, List.getElem?_cons_succ, List.getElem?_cons_zero] at t0 t1 t2
    have f0 := frozen_of_row _ _ 0 _ _ hrr
    have f1 := frozen_of_row _ _ 1 _ _ hrr
    have f2 := frozen_of_row _ _ 2 _ _ hrr
    have HRR := Lib.hid hrr
    clear hrr hg
    go_wp2_with fail
    all_goals
      refine bodyPost_ret (results_v31 rfl _ _ (n + 1 + 1) Bb Bc Bd rfl (heap_store3 _ _ _ _ _ _ _ _ _ HRR.out)) rfl ⟨by simp [*], ?_⟩
      rw [hn]
      exact below_setv (hBw.out.trans ((below_trans2 HDV.out hk).mono (by omega))) (by omega) _ _ _

end Go.Proofs.Ytijohedhbbddjaa
