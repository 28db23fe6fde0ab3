/- The walk of the reference's Diag. -/
import Derived.Test.YtijohedhbbddjaaR37
namespace Go.Proofs.Ytijohedhbbddjaa
open Go.RowKit

def dgU (xs : List Int) (n i j : Nat) : Int := if j / n = j % n ∧ j % n < i then xs.getD (j % n) 0 else 0
def dgL (xs : List Int) (n : Nat) : List Int := tab (fun i k => if i = k then xs.getD i 0 else 0) n (n * n)
theorem dgU_set (xs : List Int) {n i : Nat} (p : Nat) (hi : i < n) : (rowF (dgU xs n i) p).set (i * n + i) (xs.getD i 0) = rowF (dgU xs n (i + 1)) p := by
  rw [rowF_set]
  refine rowF_ext fun j _ => ?_
  obtain ⟨h1, h2⟩ := div_mod_at (i := i) hi
  unfold dgU
  by_cases e : j = i * n + i
  · subst e
    rw [h1, h2]
    simp
  · rw [if_neg e]
    have hne : ¬ (j / n = j % n ∧ j % n = i) := fun ⟨ha, hb⟩ => e (by have := Nat.div_add_mod' j n; rw [ha, hb] at this; exact this.symm)
    have : (j / n = j % n ∧ j % n < i) ↔ (j / n = j % n ∧ j % n < i + 1) := by
      constructor
      · rintro ⟨h, h'⟩; exact ⟨h, by omega⟩
      · rintro ⟨h, h'⟩
        have : j % n ≠ i := fun h2 => hne ⟨h, h2⟩
        exact ⟨h, by omega⟩
    simp only [this]
theorem dgU_zero (xs : List Int) (n p : Nat) : rowF (dgU xs n 0) p = List.replicate p (0 : Int) := by
  rw [rowF_zero]; exact rowF_ext fun j _ => by simp [dgU]
theorem dgU_all (xs : List Int) (n : Nat) : rowF (dgU xs n n) (n * n) = dgL xs n := by
  unfold dgL
  rw [tab_rowF]
  refine rowF_ext fun j hj => ?_
  have : j % n < n := Nat.mod_lt _ (Nat.pos_of_ne_zero (fun h => by subst h; simp at hj))
  unfold dgU
  by_cases h : j / n = j % n
  · rw [if_pos ⟨h, this⟩, if_pos h, h]
  · rw [if_neg (fun hh => h hh.1), if_neg h]

def diagR (xs : List Int) : MRes := if 1 ≤ xs.length ∧ xs.length ≤ 8 ∧ xs.any clo = false then ⟨xs.length, xs.length, dgL xs xs.length, false, 0⟩ else ⟨0, 0, [], false, 1⟩
/-- A matrix and an error number are handed back. -/
def Gives1 (p : MRes) (w : World) (e : Ending) (w' : World) : Prop :=
  ∃ ao cap, e = .returned (.tuple #[.agg #[.int .i64 p.r, .int .i64 p.c, .slice ao p.xs.length cap], .int .i64 p.err]) ∧ w'.ownsRow w.heap.size 25 1 (.slice ao p.xs.length cap) p.xs.length (p.xs.map (Value.int .i64)) ∧ Below w.heap.size w w'
theorem gives1_no (w w' : World) (h : Below w.heap.size w w') : Gives1 ⟨0, 0, [], false, 1⟩ w (.returned (.tuple #[.agg #[.int .i64 0, .int .i64 0, .slice none 0 0], .int .i64 1])) w' :=
  ⟨none, 0, rfl, World.ownsRow_nil _ _ _ _, h⟩

set_option maxRecDepth 100000 in
set_option maxHeartbeats 2000000 in
theorem rdiag3_any (w : World) (v : Value) (xs : List Int) (h : QS w v xs) (hl : xs.length ≤ 9223372036854775807) :
    Calls Try.prog 31 #[v] w (Gives1 (diagR xs) w) := by
  obtain ⟨ao, cap, hv, -⟩ := id h
  subst hv
  have H := Lib.hid h
  clear h
  by_cases hn : 1 ≤ xs.length ∧ xs.length ≤ 8
  · obtain ⟨hn1, hn8⟩ := hn
    have HY : Hid (xs.any clo = false → diagR xs = ⟨xs.length, xs.length, dgL xs xs.length, false, 0⟩) := fun h => if_pos ⟨hn1, hn8, h⟩
    have HN : Hid (xs.any clo = true → diagR xs = ⟨0, 0, [], false, 1⟩) := fun h => if_neg (fun hh => by rw [h] at hh; cases hh.2.2)
    have HP64 : Hid (xs.length * xs.length ≤ 64) := mat_len hn8 hn8
    obtain ⟨pr, hpr⟩ : ∃ p, diagR xs = p := ⟨_, rfl⟩
    rw [hpr] at HY HN ⊢
    clear hpr
    go_enter Try.func31, Try.ntmps31
    go_upto_region 2 with fail
    obtain ⟨W0, hW0⟩ : ∃ W0, W0 = w.alloc (.cells #[.int .i64 0, .int .i64 0, .slice none 0 0] 24) := ⟨_, rfl⟩
    rw [← hW0]
    have HQ : Hid (QS W0 (.slice ao xs.length cap) xs) := by rw [hW0]; exact H.out.later (below1 _ _)
    have HR : Hid (W0.heap[w.heap.size]? = some (.cells #[.int .i64 0, .int .i64 0, .slice none 0 0] 24 (0, 0))) := by rw [hW0]; exact heap_at _ _ _ rfl
    have HBw : Hid (Below w.heap.size w W0) := by rw [hW0]; exact below1 _ _
    have hsz : w.heap.size < W0.heap.size := by rw [hW0]; simp
    clear hW0
    go_wp2_with (go_at_call 77; refine (none_any W0 xs.length xs.length hn8 hn8).mono ?_; rintro e w1 ⟨ao1, cap1, rfl, hown1, hb1⟩)
    have hI := RowIn.of (r := xs.length) (c := xs.length) hb1 hown1
    obtain ⟨g, hg⟩ : ∃ g, g = w1.heap.size := ⟨_, rfl⟩
    obtain ⟨wr1, hwr1⟩ : ∃ wr, wr = w1.alloc (.cells #[.int .i64 xs.length, .int .i64 xs.length, .slice ao1 (xs.length * xs.length) cap1] 24) := ⟨_, rfl⟩
    rw [← hg, ← hwr1] at hI
    rw [← hg, ← hwr1]
    clear hown1 hb1 hg hwr1
    obtain ⟨p, hp⟩ : ∃ p, xs.length * xs.length = p := ⟨_, rfl⟩
    have HP := Lib.hid hp
    rw [hp] at hI ⊢
    rw [← dgU_zero xs xs.length] at hI
    have hp64 : p ≤ 64 := by rw [← hp]; exact HP64.out
    clear hp
    go_loopg [6] xs.length (fun m iv wr => ∃ i : Nat, i ≤ xs.length ∧ m = xs.length - i ∧ iv = .int .i64 i ∧ (xs.take i).any clo = false ∧ RowIn W0 wr g xs.length xs.length p (.slice ao1 p cap1) (rowF (dgU xs xs.length i) p))
    case atStart => exact ⟨0, by omega, by omega, rfl, by simp, hI⟩
    case round =>
      clear hI
      obtain ⟨i, hi, rfl, rfl, hcl, hI⟩ := hrel
      have HI := Lib.hid hI
      have HCl := Lib.hid hcl
      have hkeep := hI.keep
      clear hI hcl
      by_cases hlt : i < xs.length
      · obtain ⟨A0, hA0⟩ : ∃ A0 : Nat, A0 = i * xs.length := ⟨_, rfl⟩
        have hN : A0 + i < p := by rw [hA0, ← HP.out]; exact idx_lt hlt hlt
        have eA0 : (i : Int) * (xs.length : Int) = (A0 : Int) := by rw [hA0]; simp
        obtain ⟨A, hAe⟩ : ∃ A, A = A0 + i := ⟨_, rfl⟩
        have eA : (A0 : Int) + (i : Int) = (A : Int) := by rw [hAe]; simp
        have HNe : Hid (i * xs.length + i = A) := by rw [hAe, hA0]; exact rfl
        rw [← hAe] at hN
        obtain ⟨b, off, rfl, hc1⟩ := qs_cell HQ.out hlt
        have hc1 := cells_later hc1
        obtain ⟨x, hxe⟩ : ∃ x, xs[i] = x := ⟨_, rfl⟩
        have HX := Lib.hid hxe
        rw [hxe] at hc1
        obtain ⟨t, ht⟩ : ∃ t, clo x = t := ⟨_, rfl⟩
        have HT := Lib.hid ht
        have hin := rin_any x wr
        rw [ht] at hin
        obtain ⟨q, cap2, he, hcq, hfq, hset⟩ := HI.out.at hN
        have hm2 := HI.out.mcell
        have HE := Lib.hid he
        injection he with he1 he2 he3
        subst he1
        subst he3
        have HS := Lib.hid hset
        have hi1 : (i : Int) < (xs.length : Int) := by omega
        have hi0 : (0 : Int) ≤ (i : Int) := by omega
        have hN1 : (A : Int) < (p : Int) := by omega
        have hA2 : (A0 : Int) ≤ 64 := by omega
        have hA3 : (0 : Int) ≤ (A : Int) := by omega
        have wA0 := Lib.hid (IntWalk.i64_in (A0 : Int) (by omega))
        have wA := Lib.hid (IntWalk.i64_in (A : Int) (by omega))
        have hR := block_later HR.out hkeep
        have t0 := cell_of_row _ _ 0 _ _ _ hR
        have t1 := cell_of_row _ _ 1 _ _ _ hR
        have t2 := cell_of_row _ _ 2 _ _ _ hR
        simp only [List.getElem?_toArray, List.getElem?_cons_succ, List.getElem?_cons_zero] at t0 t1 t2
        have f0 := frozen_of_row _ _ 0 _ _ hR
        have f1 := frozen_of_row _ _ 1 _ _ hR
        have f2 := frozen_of_row _ _ 2 _ _ hR
        have HRR := Lib.hid hR
        clear hset he2 hxe ht hA0 hAe hR
        go_wp2_with (go_at_call 68; refine hin.mono ?_; rintro e w1 ⟨rfl, rfl⟩)
        · have h6 : t = true := by assumption
          have hany : xs.any clo = true := List.any_eq_true.2 ⟨xs[i], List.getElem_mem _, by rw [HX.out, HT.out, h6]⟩
          rw [HN.out hany]
          refine bodyPost_ret (results_row1 rfl _ _ _ _ _ _ _ rfl (heap_store3 _ _ _ _ _ (.int .i64 0) (.int .i64 0) (.slice none 0 0) _ HRR.out) Try.underlying24 rfl (by kernel_rfl)) rfl ?_
          exact gives1_no _ _ (below_set3 (below_tr2 hkeep HBw.out) (by omega) _ _ _)
        · have h6 : t = false := by assumption
          have wA0 := wA0.out
          have wA := wA.out
          go_region_held3 (fun w' => Below W0.heap.size W0 w' ∧ w'.cell? ⟨g, 2, none⟩ = some (.slice (some ⟨q, 0, none⟩) p cap1))
            (first | assumption | exact ⟨hkeep.drew, hm2⟩ | exact ⟨(HS.out _ (below_drew _) _).keep, (HS.out _ (below_drew _) _).mcell⟩)
            (fail)
          go_wp2_with fail
          go_roundg (xs.length - (i + 1))
          case measure => omega
          case rel =>
            refine ⟨i + 1, by omega, rfl, by go_num, by rw [any_take_succ hlt, HCl.out, HX.out, HT.out, h6]; rfl, ?_⟩
            have := HS.out _ (below_drew _) x
            rw [show x = xs.getD i 0 by rw [← HX.out]; simp [hlt], ← HNe.out, dgU_set xs p hlt, HNe.out] at this
            rw [show x = xs.getD i 0 by rw [← HX.out]; simp [hlt]]
            exact this
      · have hir : i = xs.length := by omega
        subst hir
        have hR := block_later HR.out HI.out.keep
        have t0 := cell_of_row _ _ 0 _ _ _ hR
        have t1 := cell_of_row _ _ 1 _ _ _ hR
        have t2 := cell_of_row _ _ 2 _ _ _ hR
        have m0 := cell_of_row _ _ 0 _ _ _ HI.out.m
        have m1 := cell_of_row _ _ 1 _ _ _ HI.out.m
        have m2 := cell_of_row _ _ 2 _ _ _ HI.out.m
        simp only [List.getElem?_toArray, List.getElem?_cons_succ, List.getElem?_cons_zero] at t0 t1 t2 m0 m1 m2
        have f0 := frozen_of_row _ _ 0 _ _ hR
        have f1 := frozen_of_row _ _ 1 _ _ hR
        have f2 := frozen_of_row _ _ 2 _ _ hR
        have ho := HI.out.own
        have hcl := HCl.out
        rw [List.take_length] at hcl
        have HYE := Lib.hid (HY.out hcl)
        have hp := HP.out
        rw [show rowF (dgU xs xs.length xs.length) p = dgL xs xs.length by rw [← hp]; exact dgU_all _ _] at ho
        have HL2 : Hid ((dgL xs xs.length).length = p) := by unfold dgL; rw [tab_length]; exact hp
        clear hp hcl
        go_wp2_with fail
        refine bodyPost_ret (results_row1 rfl _ _ _ _ _ _ _ rfl (heap_store3 _ _ _ _ _ (.int .i64 xs.length) (.int .i64 xs.length) (.slice ao1 p cap1) _ hR) Try.underlying24 rfl (by kernel_rfl)) rfl ?_
        have hq := ownsRow_base (owns_set3 ho hsz (.int .i64 xs.length) (.int .i64 xs.length) (.slice ao1 p cap1)) (base' := w.heap.size) (by omega)
        rw [HYE.out]
        refine ⟨ao1, cap1, by show _ = Ending.returned (.tuple #[.agg #[_, _, .slice ao1 (dgL xs xs.length).length cap1], _]); rw [HL2.out]; rfl, by show World.ownsRow _ _ _ _ (.slice ao1 (dgL xs xs.length).length cap1) (dgL xs xs.length).length _; rw [HL2.out]; exact hq, below_set3 (below_tr2 hkeep HBw.out) (by omega) _ _ _⟩
  · have hd : diagR xs = ⟨0, 0, [], false, 1⟩ := if_neg (fun hh => hn ⟨hh.1, hh.2.1⟩)
    rw [hd]
    clear hd
    by_cases h0 : xs.length = 0
    · go_enter Try.func31, Try.ntmps31
      go_wp2_with fail
      refine bodyPost_ret (results_row1 rfl _ _ _ _ _ _ _ rfl (heap_at _ _ _ (by simp)) Try.underlying24 rfl (by kernel_rfl)) rfl (gives1_no _ _ (below1 _ _))
    · have h9 : 8 < xs.length := by omega
      go_enter Try.func31, Try.ntmps31
      go_wp2_with fail
      refine bodyPost_ret (results_row1 rfl _ _ _ _ _ _ _ rfl (heap_at _ _ _ (by simp)) Try.underlying24 rfl (by kernel_rfl)) rfl (gives1_no _ _ (below1 _ _))

end Go.Proofs.Ytijohedhbbddjaa
