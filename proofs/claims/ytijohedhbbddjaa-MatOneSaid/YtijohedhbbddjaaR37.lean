/- The walk of the reference's Even. -/
import Derived.Test.YtijohedhbbddjaaR36
namespace Go.Proofs.Ytijohedhbbddjaa
open Go.RowKit

theorem transL_getD (xs : List Int) (n : Nat) {i k : Nat} (hi : i < n) (hk : k < n) : (transL xs n n).getD (i * n + k) 0 = xs.getD (k * n + i) 0 := by
  unfold transL
  rw [tab_rowF, rowF_getD _ (idx_lt hi hk)]
  show xs.getD _ 0 = _
  rw [(div_mod_at hk).1, (div_mod_at hk).2]

set_option maxRecDepth 100000 in
set_option maxHeartbeats 2000000 in
theorem reven3_any (w : World) (n : Nat) (v : Value) (xs : List Int) (h : MV w n n v xs) (hq : InQ xs) :
    Calls Try.prog 35 #[.agg #[.int .i64 n, .int .i64 n, v]] w fun e w' =>
      ∃ ao cap, e = .returned (.tuple #[.agg #[.int .i64 n, .int .i64 n, .slice ao (n * n) cap], .bool false, .int .i64 0]) ∧
        w'.ownsRow w.heap.size 25 1 (.slice ao (n * n) cap) (n * n) ((eachL (fun x y => half1 (x + y)) xs (transL xs n n) n n).map (Value.int .i64)) ∧ Below w.heap.size w w' := by
  obtain ⟨ao, cap, hv, -⟩ := id h.qs
  subst hv
  have hl := h.len
  have hr := h.hr
  have h64 : xs.length ≤ 64 := by rw [hl]; exact mat_len hr hr
  have hrc : n * n ≤ 64 := mat_len hr hr
  have H := Lib.hid h.qs
  have HL := Lib.hid hl
  have HRC := Lib.hid hrc
  have HIQ := Lib.hid hq
  rw [eachL_rowF]
  clear h hl hrc hq
  obtain ⟨D, hD⟩ : ∃ D : Nat → Int, D = fun j => half1 (xs.getD j 0 + (transL xs n n).getD j 0) := ⟨_, rfl⟩
  rw [show (fun j => (fun x y => half1 (x + y)) (xs.getD j 0) ((transL xs n n).getD j 0)) = D from hD.symm]
  have HD : Hid (∀ i k, i < n → k < n → D (i * n + k) = half1 (xs.getD (i * n + k) 0 + xs.getD (k * n + i) 0)) := by
    intro i k hi hk
    rw [hD]
    show half1 (_ + _) = _
    rw [transL_getD xs n hi hk]
  clear hD
  go_enter Try.func35, Try.ntmps35
  go_upto_region 1 with fail
  obtain ⟨W0, hW0⟩ : ∃ W0, W0 = (w.alloc (.cells #[.int .i64 n, .int .i64 n, .slice ao xs.length cap] 24)).alloc (.cells #[.int .i64 0, .int .i64 0, .slice none 0 0] 24) := ⟨_, rfl⟩
  rw [← hW0]
  have r0 := cells_later (w := W0) (a := ⟨w.heap.size, 0, none⟩) (v := .int .i64 n) (by rw [hW0]; simp [go_sem])
  have r1 := cells_later (w := W0) (a := ⟨w.heap.size, 1, none⟩) (v := .int .i64 n) (by rw [hW0]; simp [go_sem])
  have r2 := cells_later (w := W0) (a := ⟨w.heap.size, 2, none⟩) (v := .slice ao xs.length cap) (by rw [hW0]; simp [go_sem])
  have HQ : Hid (QS W0 (.slice ao xs.length cap) xs) := by rw [hW0]; exact H.out.later (below2 _ _ _)
  have HR : Hid (W0.heap[w.heap.size + 1]? = some (.cells #[.int .i64 0, .int .i64 0, .slice none 0 0] 24 (0, 0))) := by rw [hW0]; exact heap_at _ _ _ (by simp)
  have HBw : Hid (Below w.heap.size w W0) := by rw [hW0]; exact below2 _ _ _
  have hsz : w.heap.size + 1 < W0.heap.size := by rw [hW0]; simp
  clear hW0
  have HB0 := Below.refl W0.heap.size W0
  have q0 := r0 _ HB0
  have q1 := r1 _ HB0
  go_wp2_with (go_at_call 77; refine (none_any W0 n n hr hr).mono ?_; rintro e w1 ⟨ao1, cap1, rfl, hown1, hb1⟩)
  have hI := RowIn.of (r := n) (c := n) hb1 hown1
  obtain ⟨g, hg⟩ : ∃ g, g = w1.heap.size := ⟨_, rfl⟩
  obtain ⟨wr1, hwr1⟩ : ∃ wr, wr = w1.alloc (.cells #[.int .i64 n, .int .i64 n, .slice ao1 (n * n) cap1] 24) := ⟨_, rfl⟩
  rw [← hg, ← hwr1] at hI
  rw [← hg, ← hwr1]
  clear hown1 hb1 hg hwr1 q0 q1
  obtain ⟨p, hp⟩ : ∃ p, n * n = p := ⟨_, rfl⟩
  have HP := Lib.hid hp
  rw [hp] at hI ⊢
  rw [← rowF_upto_zero D] at hI
  have hp64 : p ≤ 64 := by rw [← hp]; exact HRC.out
  clear hp
  go_loopg [6] n (fun m iv wr => ∃ i : Nat, i ≤ n ∧ m = n - i ∧ iv = .int .i64 i ∧ RowIn W0 wr g n n p (.slice ao1 p cap1) (rowF (upto D (i * n)) p))
  case atStart => exact ⟨0, by omega, by omega, rfl, by simpa using hI⟩
  case round =>
    clear hI
    obtain ⟨i, hi, rfl, rfl, hI⟩ := hrel
    have HI := Lib.hid hI
    have hkeep := hI.keep
    have k0 := r0 _ hkeep
    clear hI hkeep
    by_cases hlti : i < n
    · go_wp2_with fail
      go_loopg [7] n (fun m kv wr => ∃ k : Nat, k ≤ n ∧ m = n - k ∧ kv = .int .i64 k ∧ RowIn W0 wr g n n p (.slice ao1 p cap1) (rowF (upto D (i * n + k)) p))
      case atStart => exact ⟨0, by omega, by omega, rfl, HI.out⟩
      case round =>
        clear HI k0
        obtain ⟨k, hk, rfl, rfl, hI⟩ := hrel
        have HI := Lib.hid hI
        have hkeep := hI.keep
        have k1 := r1 _ hkeep
        clear hI
        by_cases hltk : k < n
        · obtain ⟨A0, hA0⟩ : ∃ A0 : Nat, A0 = i * n := ⟨_, rfl⟩
          obtain ⟨C0, hC0⟩ : ∃ C0 : Nat, C0 = k * n := ⟨_, rfl⟩
          have hN : A0 + k < p := by rw [hA0, ← HP.out]; exact idx_lt hlti hltk
          have hA : A0 + k < xs.length := by rw [hA0, HL.out]; exact idx_lt hlti hltk
          have hB : C0 + i < xs.length := by rw [hC0, HL.out]; exact idx_lt hltk hlti
          have eC0 : (k : Int) * (n : Int) = (C0 : Int) := by rw [hC0]; simp
          have eA0 : (i : Int) * (n : Int) = (A0 : Int) := by rw [hA0]; simp
          have hd : D (A0 + k) = half1 (xs.getD (A0 + k) 0 + xs.getD (C0 + i) 0) := by rw [hC0, hA0]; exact HD.out i k hlti hltk
          obtain ⟨A, hAe⟩ : ∃ A, A = A0 + k := ⟨_, rfl⟩
          obtain ⟨B, hBe⟩ : ∃ B, B = C0 + i := ⟨_, rfl⟩
          have eA : (A0 : Int) + (k : Int) = (A : Int) := by rw [hAe]; simp
          have eB : (C0 : Int) + (i : Int) = (B : Int) := by rw [hBe]; simp
          have HNe : Hid (i * n + k = A) := by rw [hAe, hA0]; exact rfl
          rw [← hAe] at hN hd hA
          rw [← hBe] at hB hd
          obtain ⟨b, off, rfl, hc1⟩ := qs_cell HQ.out hA
          obtain ⟨b', off', he2, hc2⟩ := qs_cell HQ.out hB
          cases he2
          have hc1 := cells_later hc1
          have hc2 := cells_later hc2
          have hx := HIQ.out A
          have hy := HIQ.out B
          rw [show xs.getD A 0 = xs[A] by simp [hA]] at hd hx
          rw [show xs.getD B 0 = xs[B] by simp [hB]] at hd hy
          obtain ⟨x, hxe⟩ : ∃ x, xs[A] = x := ⟨_, rfl⟩
          obtain ⟨y, hye⟩ : ∃ y, xs[B] = y := ⟨_, rfl⟩
          rw [hxe] at hc1 hx hd
          rw [hye] at hc2 hy hd
          have hx1 := hx.1
          have hx2 := hx.2
          have hy1 := hy.1
          have hy2 := hy.2
          have HDN := Lib.hid hd
          obtain ⟨q, cap2, he, hcq, hfq, hset⟩ := HI.out.at hN
          have hm2 := HI.out.mcell
          have HE := Lib.hid he
          injection he with he1 he2 he3
          subst he1
          subst he3
          have HS := Lib.hid hset
          have hA1 : (A : Int) < (xs.length : Int) := by omega
          have hB1 : (B : Int) < (xs.length : Int) := by omega
          have hN1 : (A : Int) < (p : Int) := by omega
          have hA2 : (A0 : Int) ≤ 64 := by omega
          have hC2 : (C0 : Int) ≤ 64 := by omega
          have hA3 : (0 : Int) ≤ (A : Int) := by omega
          have hB3 : (0 : Int) ≤ (B : Int) := by omega
          have wA0 := Lib.hid (IntWalk.i64_in (A0 : Int) (by omega))
          have wC0 := Lib.hid (IntWalk.i64_in (C0 : Int) (by omega))
          have wA := Lib.hid (IntWalk.i64_in (A : Int) (by omega))
          have wB := Lib.hid (IntWalk.i64_in (B : Int) (by omega))
          have wS := Lib.hid (IntWalk.i64_in (x + y) (by omega))
          clear hset he2 hd hxe hye hC0 hA0 hAe hBe hx hy
          go_wp2_with fail
          have wA0 := wA0.out
          have wC0 := wC0.out
          have wA := wA.out
          have wB := wB.out
          have wS := wS.out
          go_region_held3 (fun w' => Below W0.heap.size W0 w' ∧ w'.cell? ⟨g, 2, none⟩ = some (.slice (some ⟨q, 0, none⟩) p cap1))
            (first | assumption | exact ⟨hkeep.drew, hm2⟩ | exact ⟨(HS.out _ (below_drew _) _).keep, (HS.out _ (below_drew _) _).mcell⟩)
            (first | (go_at_call 91; refine (rhalf1_any _ _ (by omega) (by omega)).mono ?_; rintro e w' ⟨rfl, rfl⟩))
          go_wp2_with fail
          go_roundg (n - (k + 1))
          case measure => omega
          case rel =>
            refine ⟨k + 1, by omega, rfl, by go_num, ?_⟩
            have := HS.out _ (below_drew _) (half1 (x + y))
            rw [← HDN.out, HNe.out, rowF_upto_set, HDN.out] at this
            rw [← Nat.add_assoc, HNe.out]
            exact this
        · have hkc : k = n := by omega
          subst hkc
          go_wp2_with fail
          go_roundg (k - (i + 1))
          case measure => omega
          case rel => exact ⟨i + 1, by omega, rfl, by go_num, by rw [Nat.add_mul, Nat.one_mul]; exact HI.out⟩
    · have hir : i = n := by omega
      subst hir
      have hR := block_later HR.out HI.out.keep
      have t0 := cell_of_row _ _ 0 _ _ _ hR
      have t1 := cell_of_row _ _ 1 _ _ _ hR
      have t2 := cell_of_row _ _ 2 _ _ _ hR
      have m0 := cell_of_row _ _ 0 _ _ _ HI.out.m
      have m1 := cell_of_row _ _ 1 _ _ _ HI.out.m
      have m2 := cell_of_row _ _ 2 _ _ _ HI.out.m
      simp only [List.getElem?_toArray, List.getElem?_cons_succ, List.getElem?_cons_zero] at t0 t1 t2 m0 m1 m2
      have f0 := frozen_of_row _ _ 0 _ _ hR
      have f1 := frozen_of_row _ _ 1 _ _ hR
      have f2 := frozen_of_row _ _ 2 _ _ hR
      have hbk := HI.out.keep
      have hs1 := hbk.size
      have ho := HI.out.own
      have hp := HP.out
      rw [show rowF (upto D (i * i)) p = rowF D p by rw [hp]; exact rowF_upto_all _ _] at ho
      clear hp
      go_wp2_with fail
      refine bodyPost_ret (results_row2 rfl _ _ _ _ _ _ _ rfl (heap_store3 _ _ _ _ _ (.int .i64 i) (.int .i64 i) (.slice ao1 p cap1) _ hR) Try.underlying24 rfl (by kernel_rfl)) rfl ?_
      rw [← HP.out]
      rw [← HP.out] at ho
      refine ⟨ao1, cap1, rfl, ?_, ?_⟩
      · exact ownsRow_base (owns_set3 ho (by omega) _ _ _) (by omega)
      · exact below_set3 (below_tr2 hbk HBw.out) (by omega) _ _ _

set_option maxRecDepth 100000 in
set_option maxHeartbeats 1000000 in
theorem reven3_no (w : World) (r c : Nat) (v : Value) (hne : r ≠ c) :
    Calls Try.prog 35 #[.agg #[.int .i64 r, .int .i64 c, v]] w fun e w' =>
      e = .returned (.tuple #[.agg #[.int .i64 0, .int .i64 0, .slice none 0 0], .bool false, .int .i64 9]) ∧ Below w.heap.size w w' := by
  have hne' : ((r : Int) != (c : Int)) = true := by simp; omega
  go_enter Try.func35, Try.ntmps35
  go_wp2_with fail
  refine bodyPost_ret (results_row2 rfl _ _ _ _ _ _ _ rfl (heap_at _ _ _ (by simp)) Try.underlying24 rfl (by kernel_rfl)) rfl ⟨rfl, below2 _ _ _⟩

end Go.Proofs.Ytijohedhbbddjaa
