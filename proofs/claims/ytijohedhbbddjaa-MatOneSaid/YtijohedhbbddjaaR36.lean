/- The walk of the reference's Trans. -/
import Derived.Test.YtijohedhbbddjaaR35
namespace Go.Proofs.Ytijohedhbbddjaa
open Go.RowKit

theorem RowIn.mcell {W0 wr : World} {g r c n : Nat} {row : Value} {ys : List Int} (h : RowIn W0 wr g r c n row ys) : wr.cell? ⟨g, 2, none⟩ = some row := by
  rw [cell_of_row _ _ _ _ _ _ h.m]; rfl

/-- A row that is filled column by column. -/
def trF (D : Nat → Int) (r i k : Nat) (n : Nat) : Int := if n % r < i ∨ (n % r = i ∧ n / r < k) then D n else 0
theorem trF_set (D : Nat → Int) {r i : Nat} (k p : Nat) (hi : i < r) : (rowF (trF D r i k) p).set (k * r + i) (D (k * r + i)) = rowF (trF D r i (k + 1)) p := by
  rw [rowF_set]
  refine rowF_ext fun j _ => ?_
  obtain ⟨h1, h2⟩ := div_mod_at (i := k) hi
  unfold trF
  by_cases e : j = k * r + i
  · subst e
    rw [h1, h2]
    simp
  · rw [if_neg e]
    have hne : ¬ (j % r = i ∧ j / r = k) := fun ⟨ha, hb⟩ => e (by have := Nat.div_add_mod' j r; rw [ha, hb] at this; exact this.symm)
    have : (j % r < i ∨ (j % r = i ∧ j / r < k)) ↔ (j % r < i ∨ (j % r = i ∧ j / r < k + 1)) := by
      constructor
      · rintro (h | ⟨h, h'⟩)
        · exact Or.inl h
        · exact Or.inr ⟨h, by omega⟩
      · rintro (h | ⟨h, h'⟩)
        · exact Or.inl h
        · refine Or.inr ⟨h, ?_⟩
          have : j / r ≠ k := fun h2 => hne ⟨h, h2⟩
          omega
    simp only [this]
theorem trF_next (D : Nat → Int) (r c i : Nat) : rowF (trF D r i c) (c * r) = rowF (trF D r (i + 1) 0) (c * r) := by
  refine rowF_ext fun j hj => ?_
  have hd : j / r < c := (Nat.div_lt_iff_lt_mul (Nat.pos_of_ne_zero (fun h => by subst h; simp at hj))).2 hj
  unfold trF
  have : (j % r < i ∨ (j % r = i ∧ j / r < c)) ↔ (j % r < i + 1 ∨ (j % r = i + 1 ∧ j / r < 0)) := by
    constructor
    · rintro (h | ⟨h, -⟩) <;> exact Or.inl (by omega)
    · rintro (h | ⟨-, h⟩)
      · by_cases h2 : j % r = i
        · exact Or.inr ⟨h2, hd⟩
        · exact Or.inl (by omega)
      · exact absurd h (Nat.not_lt_zero _)
  simp only [this]
theorem trF_zero (D : Nat → Int) (r p : Nat) : rowF (trF D r 0 0) p = List.replicate p (0 : Int) := by
  rw [rowF_zero]; exact rowF_ext fun j _ => by simp [trF]
theorem trF_all (D : Nat → Int) (r c : Nat) : rowF (trF D r r 0) (c * r) = rowF D (c * r) := rowF_ext fun j hj => by
  have : j % r < r := Nat.mod_lt _ (Nat.pos_of_ne_zero (fun h => by subst h; simp at hj))
  simp [trF, this]

set_option maxRecDepth 100000 in
set_option maxHeartbeats 2000000 in
theorem rtrans3_any (w : World) (r c : Nat) (v : Value) (xs : List Int) (h : MV w r c v xs) :
    Calls Try.prog 37 #[.agg #[.int .i64 r, .int .i64 c, v]] w fun e w' =>
      ∃ ao cap, e = .returned (.agg #[.int .i64 c, .int .i64 r, .slice ao (c * r) cap]) ∧
        w'.ownsRow w.heap.size 25 1 (.slice ao (c * r) cap) (c * r) ((tab (fun i k => xs.getD (k * c + i) 0) r (c * r)).map (Value.int .i64)) ∧ Below w.heap.size w w' := by
  obtain ⟨ao, cap, hv, -⟩ := id h.qs
  subst hv
  have hl := h.len
  have hr := h.hr
  have hc := h.hc
  have h64 : xs.length ≤ 64 := by rw [hl]; exact mat_len hr hc
  have hrc : c * r ≤ 64 := mat_len hc hr
  have H := Lib.hid h.qs
  have HL := Lib.hid hl
  have HRC := Lib.hid hrc
  clear h hl hrc
  obtain ⟨D, hD⟩ : ∃ D : Nat → Int, D = fun n => xs.getD (n % r * c + n / r) 0 := ⟨_, rfl⟩
  rw [show tab (fun i k => xs.getD (k * c + i) 0) r (c * r) = rowF D (c * r) by rw [hD]; rfl]
  have HD : Hid (∀ i k, i < r → D (k * r + i) = xs.getD (i * c + k) 0) := by
    intro i k hi
    rw [hD]
    show xs.getD _ 0 = _
    rw [(div_mod_at hi).1, (div_mod_at hi).2]
  clear hD
  go_enter Try.func37, Try.ntmps37
  go_upto_region 1 with fail
  obtain ⟨W0, hW0⟩ : ∃ W0, W0 = (w.alloc (.cells #[.int .i64 r, .int .i64 c, .slice ao xs.length cap] 24)).alloc (.cells #[.int .i64 0, .int .i64 0, .slice none 0 0] 24) := ⟨_, rfl⟩
  rw [← hW0]
  have r0 := cells_later (w := W0) (a := ⟨w.heap.size, 0, none⟩) (v := .int .i64 r) (by rw [hW0]; simp [go_sem])
  have r1 := cells_later (w := W0) (a := ⟨w.heap.size, 1, none⟩) (v := .int .i64 c) (by rw [hW0]; simp [go_sem])
  have r2 := cells_later (w := W0) (a := ⟨w.heap.size, 2, none⟩) (v := .slice ao xs.length cap) (by rw [hW0]; simp [go_sem])
  have HQ : Hid (QS W0 (.slice ao xs.length cap) xs) := by rw [hW0]; exact H.out.later (below2 _ _ _)
  have HR : Hid (W0.heap[w.heap.size + 1]? = some (.cells #[.int .i64 0, .int .i64 0, .slice none 0 0] 24 (0, 0))) := by rw [hW0]; exact heap_at _ _ _ (by simp)
  have HBw : Hid (Below w.heap.size w W0) := by rw [hW0]; exact below2 _ _ _
  have hsz : w.heap.size + 1 < W0.heap.size := by rw [hW0]; simp
  clear hW0
  have HB0 := Below.refl W0.heap.size W0
  have q0 := r0 _ HB0
  have q1 := r1 _ HB0
  go_wp2_with (go_at_call 77; refine (none_any W0 c r hc hr).mono ?_; rintro e w1 ⟨ao1, cap1, rfl, hown1, hb1⟩)
  have hI := RowIn.of (r := c) (c := r) hb1 hown1
  obtain ⟨g, hg⟩ : ∃ g, g = w1.heap.size := ⟨_, rfl⟩
  obtain ⟨wr1, hwr1⟩ : ∃ wr, wr = w1.alloc (.cells #[.int .i64 c, .int .i64 r, .slice ao1 (c * r) cap1] 24) := ⟨_, rfl⟩
  rw [← hg, ← hwr1] at hI
  rw [← hg, ← hwr1]
  clear hown1 hb1 hg hwr1 q0 q1
  obtain ⟨p, hp⟩ : ∃ p, c * r = p := ⟨_, rfl⟩
  have HP := Lib.hid hp
  rw [hp] at hI ⊢
  rw [← trF_zero D r] at hI
  have hp64 : p ≤ 64 := by rw [← hp]; exact HRC.out
  clear hp
  go_loopg [4] r (fun n iv wr => ∃ i : Nat, i ≤ r ∧ n = r - i ∧ iv = .int .i64 i ∧ RowIn W0 wr g c r p (.slice ao1 p cap1) (rowF (trF D r i 0) p))
  case atStart => exact ⟨0, by omega, by omega, rfl, hI⟩
  case round =>
    clear hI
    obtain ⟨i, hi, rfl, rfl, hI⟩ := hrel
    have HI := Lib.hid hI
    have hkeep := hI.keep
    have k0 := r0 _ hkeep
    clear hI hkeep
    by_cases hlti : i < r
    · go_wp2_with fail
      go_loopg [5] c (fun n kv wr => ∃ k : Nat, k ≤ c ∧ n = c - k ∧ kv = .int .i64 k ∧ RowIn W0 wr g c r p (.slice ao1 p cap1) (rowF (trF D r i k) p))
      case atStart => exact ⟨0, by omega, by omega, rfl, HI.out⟩
      case round =>
        clear HI k0
        obtain ⟨k, hk, rfl, rfl, hI⟩ := hrel
        have HI := Lib.hid hI
        have hkeep := hI.keep
        have k1 := r1 _ hkeep
        clear hI
        by_cases hltk : k < c
        · obtain ⟨C0, hC0⟩ : ∃ C0 : Nat, C0 = k * r := ⟨_, rfl⟩
          obtain ⟨A0, hA0⟩ : ∃ A0 : Nat, A0 = i * c := ⟨_, rfl⟩
          have hN : C0 + i < p := by rw [hC0, ← HP.out]; exact idx_lt hltk hlti
          have hA : A0 + k < xs.length := by rw [hA0, HL.out]; exact idx_lt hlti hltk
          have eC : (k : Int) * (r : Int) = (C0 : Int) := by rw [hC0]; simp
          have eA0 : (i : Int) * (c : Int) = (A0 : Int) := by rw [hA0]; simp
          have hd : D (C0 + i) = xs.getD (A0 + k) 0 := by rw [hC0, hA0]; exact HD.out i k hlti
          obtain ⟨N, hNe⟩ : ∃ N, N = C0 + i := ⟨_, rfl⟩
          obtain ⟨A, hAe⟩ : ∃ A, A = A0 + k := ⟨_, rfl⟩
          have eN : (C0 : Int) + (i : Int) = (N : Int) := by rw [hNe]; simp
          have eA : (A0 : Int) + (k : Int) = (A : Int) := by rw [hAe]; simp
          have HNe : Hid (k * r + i = N) := by rw [hNe, hC0]; exact rfl
          rw [← hNe] at hN hd
          rw [← hAe] at hA hd
          obtain ⟨b, off, rfl, hc1⟩ := qs_cell HQ.out hA
          have r1' := r1
          have r2' := r2
          have hc1 := cells_later hc1
          have hx' : xs[A] = D N := by rw [hd]; simp [hA]
          rw [hx'] at hc1
          obtain ⟨q, cap2, he, hcq, hfq, hset⟩ := HI.out.at hN
          have hm2 := HI.out.mcell
          have HE := Lib.hid he
          injection he with he1 he2 he3
          subst he1
          subst he3
          have HS := Lib.hid hset
          have hA1 : (A : Int) < (xs.length : Int) := by omega
          have hN1 : (N : Int) < (p : Int) := by omega
          have hA2 : (A0 : Int) ≤ 64 := by omega
          have hC2 : (C0 : Int) ≤ 64 := by omega
          have hA3 : (0 : Int) ≤ (A : Int) := by omega
          have hN3 : (0 : Int) ≤ (N : Int) := by omega
          have wA0 := Lib.hid (IntWalk.i64_in (A0 : Int) (by omega))
          have wC0 := Lib.hid (IntWalk.i64_in (C0 : Int) (by omega))
          have wA := Lib.hid (IntWalk.i64_in (A : Int) (by omega))
          have wN := Lib.hid (IntWalk.i64_in (N : Int) (by omega))
          clear hset he2 hd hx' hC0 hA0 hAe hNe
          obtain ⟨d, hd⟩ : ∃ d, D N = d := ⟨_, rfl⟩
          have HDN := Lib.hid hd
          rw [hd] at hc1
          clear hd
          go_wp2_with fail
          have wA0 := wA0.out
          have wC0 := wC0.out
          have wA := wA.out
          have wN := wN.out
          go_region_held3 (fun w' => Below W0.heap.size W0 w' ∧ w'.cell? ⟨g, 2, none⟩ = some (.slice (some ⟨q, 0, none⟩) p cap1))
            (first | assumption | exact ⟨hkeep.drew, hm2⟩ | exact ⟨(HS.out _ (below_drew _) _).keep, (HS.out _ (below_drew _) _).mcell⟩)
            (fail)
          go_wp2_with fail
          go_roundg (c - (k + 1))
          case measure => omega
          case rel =>
            refine ⟨k + 1, by omega, rfl, by go_num, ?_⟩
            have := HS.out _ (below_drew _) d
            rw [← HDN.out, ← HNe.out, trF_set D k p hlti, HNe.out, HDN.out] at this
            exact this
        · have hkc : k = c := by omega
          subst hkc
          go_wp2_with fail
          go_roundg (r - (i + 1))
          case measure => omega
          case rel =>
            refine ⟨i + 1, by omega, rfl, by go_num, ?_⟩
            have := HI.out
            rw [← HP.out, trF_next, HP.out] at this
            exact this
    · have hir : i = r := by omega
      subst hir
      have hR := block_later HR.out HI.out.keep
      have t0 := cell_of_row _ _ 0 _ _ _ hR
      have t1 := cell_of_row _ _ 1 _ _ _ hR
      have t2 := cell_of_row _ _ 2 _ _ _ hR
      have m0 := cell_of_row _ _ 0 _ _ _ HI.out.m
      have m1 := cell_of_row _ _ 1 _ _ _ HI.out.m
      have m2 := cell_of_row _ _ 2 _ _ _ HI.out.m
      simp only [List.getElem?_toArray, List.getElem?_cons_succ, List.getElem?_cons_zero] at t0 t1 t2 m0 m1 m2
      have f0 := frozen_of_row _ _ 0 _ _ hR
      have f1 := frozen_of_row _ _ 1 _ _ hR
      have f2 := frozen_of_row _ _ 2 _ _ hR
      have hbk := HI.out.keep
      have hs1 := hbk.size
      have ho := HI.out.own
      have hp := HP.out
      rw [show rowF (trF D i i 0) p = rowF D p by rw [← hp]; exact trF_all _ _ _] at ho
      clear hp
      go_wp2_with fail
      refine bodyPost_ret (results_row rfl _ _ _ _ _ _ _ rfl (heap_store3 _ _ _ _ _ (.int .i64 c) (.int .i64 i) (.slice ao1 p cap1) _ hR) Try.underlying24 rfl (by kernel_rfl)) rfl ?_
      rw [← HP.out]
      rw [← HP.out] at ho
      refine ⟨ao1, cap1, rfl, ?_, ?_⟩
      · exact ownsRow_base (owns_set3 ho (by omega) _ _ _) (by omega)
      · exact below_set3 (below_tr2 hbk HBw.out) (by omega) _ _ _

end Go.Proofs.Ytijohedhbbddjaa
