/- The walks of the reference's Scale, Trans, Even. -/
import Derived.Test.YtijohedhbbddjaaA9
namespace Go.Proofs.Ytijohedhbbddjaa
open Go.RowKit

theorem scaleL_rowF (xs : List Int) (q : Int) (r c : Nat) : tab (fun i k => mulQ (xs.getD (i * c + k) 0) q) c (r * c) = rowF (fun j => mulQ (xs.getD j 0) q) (r * c) := by
  rw [tab_rowF]
  exact rowF_ext fun j _ => by simp only [Nat.div_add_mod']
theorem scaleO_anyF (xs : List Int) (q : Int) (r c : Nat) : tabO (fun i k => mulO (xs.getD (i * c + k) 0) q) c (r * c) = (List.range (r * c)).any fun j => mulO (xs.getD j 0) q := by
  unfold tabO
  simp only [Nat.div_add_mod']

set_option maxRecDepth 100000 in
set_option maxHeartbeats 1000000 in
theorem rscale3_any (w : World) (r c : Nat) (v : Value) (xs : List Int) (z : Int) (h : MV w r c v xs) :
    Calls Try.prog 33 #[.agg #[.int .i64 r, .int .i64 c, v], .int .i64 z] w fun e w' =>
      ∃ ao cap, e = .returned (.tuple #[.agg #[.int .i64 r, .int .i64 c, .slice ao (r * c) cap], .bool (tabO (fun i k => mulO (xs.getD (i * c + k) 0) z) c (r * c))]) ∧
        w'.ownsRow w.heap.size 25 1 (.slice ao (r * c) cap) (r * c) ((tab (fun i k => mulQ (xs.getD (i * c + k) 0) z) c (r * c)).map (Value.int .i64)) ∧ Below w.heap.size w w' := by
  obtain ⟨ao, cap, hv, -⟩ := id h.qs
  subst hv
  have hl := h.len
  have hr := h.hr
  have hc := h.hc
  have h64 : xs.length ≤ 64 := by rw [hl]; exact mat_len hr hc
  have H := Lib.hid h.qs
  rw [scaleL_rowF, scaleO_anyF, ← hl]
  have HL := Lib.hid hl
  clear h hl
  go_enter Try.func33, Try.ntmps33
  go_upto_region 1 with fail
  obtain ⟨W0, hW0⟩ : ∃ W0, W0 = (w.alloc (.cells #[.int .i64 r, .int .i64 c, .slice ao xs.length cap] 24)).alloc (.cells #[.int .i64 0, .int .i64 0, .slice none 0 0] 24) := ⟨_, rfl⟩
  rw [← hW0]
  have r0 := cells_later (w := W0) (a := ⟨w.heap.size, 0, none⟩) (v := .int .i64 r) (by rw [hW0]; simp [go_sem])
  have r1 := cells_later (w := W0) (a := ⟨w.heap.size, 1, none⟩) (v := .int .i64 c) (by rw [hW0]; simp [go_sem])
  have r2 := cells_later (w := W0) (a := ⟨w.heap.size, 2, none⟩) (v := .slice ao xs.length cap) (by rw [hW0]; simp [go_sem])
  have HQ : Hid (QS W0 (.slice ao xs.length cap) xs) := by rw [hW0]; exact H.out.later (below2 _ _ _)
  have HR : Hid (W0.heap[w.heap.size + 1]? = some (.cells #[.int .i64 0, .int .i64 0, .slice none 0 0] 24 (0, 0))) := by rw [hW0]; exact heap_at _ _ _ (by simp)
  have HBw : Hid (Below w.heap.size w W0) := by rw [hW0]; exact below2 _ _ _
  have hsz : w.heap.size + 1 < W0.heap.size := by rw [hW0]; simp
  clear hW0
  have HB0 := Below.refl W0.heap.size W0
  have q0 := r0 _ HB0
  have q1 := r1 _ HB0
  go_wp2_with (go_at_call 77; refine (none_any W0 r c hr hc).mono ?_; rintro e w1 ⟨ao1, cap1, rfl, hown1, hb1⟩)
  have hI := RowIn.of (r := r) (c := c) hb1 hown1
  obtain ⟨g, hg⟩ : ∃ g, g = w1.heap.size := ⟨_, rfl⟩
  obtain ⟨wr1, hwr1⟩ : ∃ wr, wr = w1.alloc (.cells #[.int .i64 r, .int .i64 c, .slice ao1 (r * c) cap1] 24) := ⟨_, rfl⟩
  rw [← hg, ← hwr1] at hI
  rw [← hg, ← hwr1]
  clear hown1 hb1 hg hwr1 q0 q1
  rw [← HL.out] at hI ⊢
  rw [← rowF_upto_zero (fun j => mulQ (xs.getD j 0) z)] at hI
  go_loopg [7, 8] xs.length (fun n od kv wr => ∃ k : Nat, k ≤ xs.length ∧ n = xs.length - k ∧ kv = .int .i64 k ∧ od = .bool ((List.range k).any fun j => mulO (xs.getD j 0) z) ∧ RowIn W0 wr g r c xs.length (.slice ao1 xs.length cap1) (rowF (upto (fun j => mulQ (xs.getD j 0) z) k) xs.length))
  case atStart => exact ⟨0, by omega, by omega, rfl, rfl, hI⟩
  case round =>
    clear hI
    obtain ⟨k, hk, rfl, rfl, rfl, hI⟩ := hrel
    have HI := Lib.hid hI
    have hkeep := hI.keep
    have r2 := r2 _ hkeep
    have m0 := cell_of_row _ _ 0 _ _ _ hI.m
    have m1 := cell_of_row _ _ 1 _ _ _ hI.m
    have m2 := cell_of_row _ _ 2 _ _ _ hI.m
    simp only [List.getElem?_toArray, List.getElem?_cons_succ, List.getElem?_cons_zero] at m0 m1 m2
    clear hI hkeep
    by_cases hlt : k < xs.length
    · have hq := HQ.out
      obtain ⟨b, off, rfl, hc1⟩ := qs_cell hq hlt
      have hc1 := cell_later HI.out.keep hc1
      obtain ⟨q, cap2, he, hcq, hfq, hset⟩ := HI.out.at hlt
      have HE := Lib.hid he
      injection he with he1 he2 he3
      subst he1
      subst he3
      have HS := Lib.hid hset
      have hx : xs.getD k 0 = xs[k] := by simp [hlt]
      have HX := Lib.hid hx
      obtain ⟨x, hxe⟩ : ∃ x, xs[k] = x := ⟨_, rfl⟩
      rw [hxe] at hc1 HX
      have hk0 : (0 : Int) ≤ (k : Int) := by omega
      have hk1 : (k : Int) < (xs.length : Int) := by omega
      obtain ⟨od, hod⟩ : ∃ od, (List.range k).any (fun j => mulO (xs.getD j 0) z) = od := ⟨_, rfl⟩
      have HOD := Lib.hid hod
      rw [hod]
      clear hset hxe he2 hq hx hod
      go_wp2_with (go_at_call 14; refine (rmul_any _ _ _).mono ?_; rintro e w' ⟨rfl, rfl⟩)
      all_goals
        go_roundg (xs.length - (k + 1))
        case measure => omega
        case rel =>
          refine ⟨k + 1, by omega, rfl, by go_num, ?_, ?_⟩
          · simp only [List.range_succ, List.any_append, HOD.out, List.any_cons, List.any_nil, HX.out, Bool.or_false]
            first | (rw [‹od = true›]; rfl) | (rw [‹od = false›]; rfl)
          · have := HS.out _ (Below.refl _ _) (mulQ x z)
            rw [show mulQ x z = (fun j => mulQ (xs.getD j 0) z) k by show _ = mulQ _ _; rw [HX.out], rowF_upto_set] at this
            rw [show mulQ x z = (fun j => mulQ (xs.getD j 0) z) k by show _ = mulQ _ _; rw [HX.out]]
            exact this
    · have hkl : k = xs.length := by omega
      subst hkl
      have hR := block_later HR.out HI.out.keep
      have t0 := cell_of_row _ _ 0 _ _ _ hR
      have t1 := cell_of_row _ _ 1 _ _ _ hR
      have t2 := cell_of_row _ _ 2 _ _ _ hR
      simp only [List.getElem?_toArray, List.getElem?_cons_succ, List.getElem?_cons_zero] at t0 t1 t2
      have f0 := frozen_of_row _ _ 0 _ _ hR
      have f1 := frozen_of_row _ _ 1 _ _ hR
      have f2 := frozen_of_row _ _ 2 _ _ hR
      have hbk := HI.out.keep
      have hs1 := hbk.size
      have ho := HI.out.own
      rw [rowF_upto_all] at ho
      obtain ⟨od, hod⟩ : ∃ od, (List.range xs.length).any (fun j => mulO (xs.getD j 0) z) = od := ⟨_, rfl⟩
      have HOD := Lib.hid hod
      rw [hod]
      clear hod
      go_wp2_with fail
      refine bodyPost_ret (results_row1 rfl _ _ _ _ _ _ _ rfl (heap_store3 _ _ _ _ _ (.int .i64 r) (.int .i64 c) (.slice ao1 xs.length cap1) _ hR) Try.underlying24 rfl (by kernel_rfl)) rfl ⟨ao1, cap1, by rw [HOD.out]; rfl, ?_, ?_⟩
      · exact ownsRow_base (owns_set3 ho (by omega) _ _ _) (by omega)
      · exact below_set3 (below_tr2 hbk HBw.out) (by omega) _ _ _

end Go.Proofs.Ytijohedhbbddjaa
