/- The walk of qfix.Div. -/
import Derived.Test.YtijohedhbbddjaaQ5
namespace Go.Proofs.Ytijohedhbbddjaa
open Go.RowKit

theorem rnd_of {N y r : Int} (h : rnd N y = r) : ((y < 2 * (N % y) ∨ (2 * (N % y) = y ∧ N / y % 2 = 1)) ∧ r = N / y + 1) ∨ ((¬ (y < 2 * (N % y) ∨ (2 * (N % y) = y ∧ N / y % 2 = 1))) ∧ r = N / y) := by
  subst h; unfold rnd; split
  · exact Or.inl ⟨‹_›, rfl⟩
  · exact Or.inr ⟨‹_›, rfl⟩

theorem div_zero_any (a b : Int) (w : World) (h : cl b = 0) :
    Calls Try.prog 41 #[.int .i64 a, .int .i64 b] w fun e w' => e = .returned (.tuple #[.int .i64 (divQ a b), .bool (divO a b)]) ∧ w = w' := by
  obtain ⟨o, ho⟩ : ∃ o, (clo a || clo b) = o := ⟨_, rfl⟩
  have hboth := both_of a b o ho w
  rw [h] at hboth
  obtain ⟨p, hp⟩ : ∃ p, cl a = p := ⟨_, rfl⟩
  have hQ : divQ a b = (if 0 < p then 70368744177663 else if p < 0 then -70368744177664 else 0) := by unfold divQ; rw [if_pos h, hp]
  have hO : divO a b = true := by unfold divO; rw [if_pos h]
  rw [hp] at hboth
  rw [hQ, hO]
  clear hQ hO hp ho h
  go_enter Try.func41, Try.ntmps41
  go_wp2_with (first | (go_at_call 81; refine hboth.mono ?_; rintro e w' ⟨rfl, rfl⟩))
  all_goals
    go_ret2
    refine ⟨ret2 ?_ rfl, rfl⟩
    first | rfl | rw [if_pos (by omega)] | (rw [if_neg (by omega), if_pos (by omega)]) | (rw [if_neg (by omega), if_neg (by omega)])

set_option maxRecDepth 100000 in
set_option maxHeartbeats 1000000 in
theorem div_nz_any (a b : Int) (w : World) (h : cl b ≠ 0) :
    Calls Try.prog 41 #[.int .i64 a, .int .i64 b] w fun e w' => e = .returned (.tuple #[.int .i64 (divQ a b), .bool (divO a b)]) ∧ Below w.heap.size w w' := by
  have ha := cl_bd a
  have hb := cl_bd b
  have haa := ab_bd a
  have hbb := ab_bd b
  have hy0 : 1 ≤ ab (cl b) := by unfold ab; omega
  obtain ⟨o, ho⟩ : ∃ o, (clo a || clo b) = o := ⟨_, rfl⟩
  have hboth := both_of a b o ho w
  obtain ⟨p, hpp⟩ : ∃ p, cl a = p := ⟨_, rfl⟩
  obtain ⟨q, hqq⟩ : ∃ q, cl b = q := ⟨_, rfl⟩
  obtain ⟨x, hx⟩ : ∃ x, ab p = x := ⟨_, rfl⟩
  obtain ⟨y, hy⟩ : ∃ y, ab q = y := ⟨_, rfl⟩
  obtain ⟨N, hN⟩ : ∃ N, x * 16777216 = N := ⟨_, rfl⟩
  obtain ⟨r, hr⟩ : ∃ r, rnd N y = r := ⟨_, rfl⟩
  obtain ⟨v, hv⟩ : ∃ v, divQ a b = v := ⟨_, rfl⟩
  obtain ⟨c, hc⟩ : ∃ c, clo (divE a b) = c := ⟨_, rfl⟩
  have hE : divE a b = neg (sgn p q) r := by rw [← hr, ← hN, ← hx, ← hy, ← hpp, ← hqq]; rfl
  have HV : Hid (cl (neg (sgn p q) r) = v) := by show _ = _; rw [← hv, ← hE]; unfold divQ; rw [if_neg h]
  have HC : Hid (clo (neg (sgn p q) r) = c) := by show _ = _; rw [← hc, hE]
  have hO : divO a b = (o || c) := by unfold divO; rw [if_neg h, hc, ho]
  have HR := Lib.hid (rnd_of hr)
  rw [hpp, hqq] at hboth
  rw [hpp] at ha haa
  rw [hqq] at hb hbb hy0 h
  rw [hx] at haa
  rw [hy] at hbb hy0
  rw [hv, hO]
  obtain ⟨l, hl⟩ : ∃ l, N % 18446744073709551616 = l := ⟨_, rfl⟩
  obtain ⟨hi, hhi⟩ : ∃ hi, x / 1099511627776 = hi := ⟨_, rfl⟩
  have e2 : IntKind.u64.wrap N = l := by rw [IntKind.wrap_u64, hl]
  have hNN : hi * 18446744073709551616 + l = N := by omega
  have hlb : 0 ≤ l ∧ l < 18446744073709551616 := by omega
  have hhb : 0 ≤ hi ∧ hi ≤ 64 := by omega
  have hxs := size_any p w (by omega) (by omega)
  have hys := size_any q w (by omega) (by omega)
  rw [hx] at hxs
  rw [hy] at hys
  have e6 : ∀ x y : Int, (decide (x < 0) == decide (y < 0)) = !(sgn x y) := fun x y => by simp [sgn, bne]
  have e7 : ∀ x y : Int, (x == y) = decide (x = y) := fun _ _ => rfl
  by_cases hfar : y ≤ hi
  · -- too far: above the bounds whatever it is
    have hr2 : 18446744073709551616 ≤ r := by
      have h1 := Int.le_ediv_of_mul_le (show 0 < y by omega) (show 18446744073709551616 * y ≤ N by omega)
      have := HR.out
      omega
    have hcc : c = true := by
      rw [← HC.out]
      cases hs : sgn p q <;> simp [neg, clo] <;> omega
    have hv1 : cl (neg (sgn p q) (1 * 18446744073709551616 + 0)) = v := by
      rw [← HV.out]
      cases hs : sgn p q <;> simp only [neg, cl, Bool.false_eq_true, if_false, if_true] <;> (repeat' split) <;> omega
    have hc1 : clo (neg (sgn p q) (1 * 18446744073709551616 + 0)) = true := by cases hs : sgn p q <;> simp [neg, clo]
    have HV1 := Lib.hid hv1
    have HC1 := Lib.hid hc1
    subst hcc
    clear hr2 hv1 hc1 hv hc hE hO hr hpp hqq hx hy ho hl hNN
    go_enter Try.func41, Try.ntmps41
    go_wp2_with (first | (go_at_call 81; (with_reducible refine hboth.mono ?_); rintro e w' ⟨rfl, rfl⟩) | (go_at_call 84; first | ((with_reducible refine hxs.mono ?_); rintro e w' ⟨rfl, rfl⟩) | ((with_reducible refine hys.mono ?_); rintro e w' ⟨rfl, rfl⟩)) | (go_at_call 85; refine (signed_of _ _ _ v true _ _ ⟨by omega, by omega⟩ ⟨by omega, by omega⟩ rfl HV1.out HC1.out).mono ?_; rintro e w' ⟨rfl, hb⟩))
    go_ret2
    exact ⟨ret2 rfl (by simp), ‹_›⟩
  · have hlt : hi < y := by omega
    have hr2 : N / y < 18446744073709551615 := by
      apply Int.ediv_lt_of_lt_mul (by omega)
      omega
    have hq0 : 0 ≤ N / y := Int.ediv_nonneg (by omega) (by omega)
    have hm0 := Int.emod_nonneg N (show y ≠ 0 by omega)
    have hm1 := Int.emod_lt_of_pos N (show 0 < y by omega)
    have hd := div64_any hi l y w ⟨by omega, hlt⟩ hlb (by omega)
    rw [hNN] at hd
    obtain ⟨Q, hQ⟩ : ∃ Q, N / y = Q := ⟨_, rfl⟩
    obtain ⟨m, hm⟩ : ∃ m, N % y = m := ⟨_, rfl⟩
    have hR := HR.out
    rw [hQ, hm] at hd hR
    rw [hQ] at hr2 hq0
    rw [hm] at hm0 hm1
    have e3 : bits .and .u64 Q 1 = Q % 2 := and1u Q hq0 (by omega)
    have HRR := Lib.hid hR
    have e5 : IntKind.u64.wrap (Q + 1) = Q + 1 := by rw [IntKind.wrap_u64]; omega
    have HQ2 := Lib.hid hr2
    clear hr2 e7
    have e8 : (m == y - m) = decide (2 * m = y) := by rw [Bool.eq_iff_iff]; simp; omega
    have e9 : (Q % 2 == 1) = decide (Q % 2 = 1) := rfl
    clear hv hc hE hO hr hpp hqq hx hy ho hl hNN HR hR hQ hm
    go_enter Try.func41, Try.ntmps41
    go_wp2_with (first | (go_at_call 81; (with_reducible refine hboth.mono ?_); rintro e w' ⟨rfl, rfl⟩) | (go_at_call 84; first | ((with_reducible refine hxs.mono ?_); rintro e w' ⟨rfl, rfl⟩) | ((with_reducible refine hys.mono ?_); rintro e w' ⟨rfl, rfl⟩)) | (go_at_call 93; refine hd.mono ?_; rintro e w1 ⟨rfl, hb1⟩) | (go_at_call 85; refine (signed_of _ _ r v c _ _ ⟨by omega, by omega⟩ ⟨by omega, by have := HQ2.out; omega⟩ (by have := HRR.out; omega) HV.out HC.out).mono ?_; rintro e w2 ⟨rfl, hb2⟩))
    all_goals go_ret2
    all_goals exact ⟨ret2 rfl (by simp [*]), below_trans2 hb1 hb2⟩

theorem div_any (a b : Int) (w : World) :
    Calls Try.prog 41 #[.int .i64 a, .int .i64 b] w fun e w' => e = .returned (.tuple #[.int .i64 (divQ a b), .bool (divO a b)]) ∧ Below w.heap.size w w' := by
  by_cases h : cl b = 0
  · exact (div_zero_any a b w h).mono fun _ _ ⟨he, hw⟩ => ⟨he, hw ▸ Below.refl _ _⟩
  · exact div_nz_any a b w h

end Go.Proofs.Ytijohedhbbddjaa
