/- The walks of the reference's product, and of halves, in both texts. -/
import Derived.Test.YtijohedhbbddjaaQ2
namespace Go.Proofs.Ytijohedhbbddjaa
open Go.RowKit

theorem mul_bd {a b m n : Int} (ha0 : 0 ≤ a) (ha : a ≤ m) (hb0 : 0 ≤ b) (hb : b ≤ n) : 0 ≤ a * b ∧ a * b ≤ m * n :=
  ⟨Int.mul_nonneg ha0 hb0, Int.mul_le_mul ha hb hb0 (by omega)⟩

theorem split24 (x y : Int) : x * y = (x / 16777216 * (y / 16777216)) * 281474976710656 + (x / 16777216 * (y % 16777216) + x % 16777216 * (y / 16777216)) * 16777216 + x % 16777216 * (y % 16777216) := by
  have ex : x = x / 16777216 * 16777216 + x % 16777216 := by omega
  have ey : y = y / 16777216 * 16777216 + y % 16777216 := by omega
  generalize x / 16777216 = x1 at *
  generalize x % 16777216 = x0 at *
  generalize y / 16777216 = y1 at *
  generalize y % 16777216 = y0 at *
  subst ex; subst ey
  grind

theorem rnd_bd (N : Int) (h0 : 0 ≤ N) (h : N ≤ 4951760157141521099596496896) : 0 ≤ rnd N 16777216 ∧ rnd N 16777216 ≤ 295147905179352825857 := by unfold rnd; omega

set_option maxRecDepth 100000 in
set_option maxHeartbeats 1000000 in
theorem rmul_any (a b : Int) (w : World) :
    Calls Try.prog 14 #[.int .i64 a, .int .i64 b] w fun e w' => e = .returned (.tuple #[.int .i64 (mulQ a b), .bool (mulO a b)]) ∧ w = w' := by
  have ha := cl_bd a
  have hb := cl_bd b
  have haa := ab_bd a
  have hbb := ab_bd b
  have hp := mul_pq a b
  have hs := split24 (ab (cl a)) (ab (cl b))
  obtain ⟨p, hpp⟩ : ∃ p, cl a = p := ⟨_, rfl⟩
  obtain ⟨q, hqq⟩ : ∃ q, cl b = q := ⟨_, rfl⟩
  obtain ⟨x, hx⟩ : ∃ x, ab p = x := ⟨_, rfl⟩
  obtain ⟨y, hy⟩ : ∃ y, ab q = y := ⟨_, rfl⟩
  have hca := rclamp_any a w
  have hcb := rclamp_any b w
  have hpa := rabs_any p w (by omega) (by omega)
  have hqa := rabs_any q w (by omega) (by omega)
  rw [hpp] at hca
  rw [hqq] at hcb
  rw [hx] at hpa
  rw [hy] at hqa
  have hr : rnd (x * y) 16777216 = rnd (ab (cl a) * ab (cl b)) 16777216 := by rw [hpp, hqq, hx, hy]
  rw [hpp, hqq, hx, hy] at hp hs
  rw [hpp, hx] at haa
  rw [hqq, hy] at hbb
  rw [hpp] at ha
  rw [hqq] at hb
  obtain ⟨N, hN⟩ : ∃ N, x * y = N := ⟨_, rfl⟩
  obtain ⟨r, hr'⟩ : ∃ r, rnd (x * y) 16777216 = r := ⟨_, rfl⟩
  obtain ⟨v, hv⟩ : ∃ v, mulQ a b = v := ⟨_, rfl⟩
  obtain ⟨c, hc⟩ : ∃ c, clo (mulE a b) = c := ⟨_, rfl⟩
  have HV : Hid (cl (neg (sgn p q) r) = v) := by show _ = _; rw [← hv, ← hr', hr, ← hpp, ← hqq]; rfl
  have HC : Hid (clo (neg (sgn p q) r) = c) := by show _ = _; rw [← hc, ← hr', hr, ← hpp, ← hqq]; rfl
  have hO : mulO a b = ((clo a || clo b) || c) := by rw [← hc]; rfl
  rw [hv, hO]
  rw [hN] at hp hs hr'
  have hrb := rnd_bd N hp.1 hp.2
  rw [hr'] at hrb
  have HR := Lib.hid (rnd_fact hr')
  obtain ⟨A, hA⟩ : ∃ A, x / 16777216 * (y / 16777216) = A := ⟨_, rfl⟩
  obtain ⟨B, hB⟩ : ∃ B, x / 16777216 * (y % 16777216) = B := ⟨_, rfl⟩
  obtain ⟨C, hC⟩ : ∃ C, x % 16777216 * (y / 16777216) = C := ⟨_, rfl⟩
  obtain ⟨D, hD⟩ : ∃ D, x % 16777216 * (y % 16777216) = D := ⟨_, rfl⟩
  have bA := mul_bd (a := x / 16777216) (b := y / 16777216) (m := 4194304) (n := 4194304) (by omega) (by omega) (by omega) (by omega)
  have bB := mul_bd (a := x / 16777216) (b := y % 16777216) (m := 4194304) (n := 16777216) (by omega) (by omega) (by omega) (by omega)
  have bC := mul_bd (a := x % 16777216) (b := y / 16777216) (m := 16777216) (n := 4194304) (by omega) (by omega) (by omega) (by omega)
  have bD := mul_bd (a := x % 16777216) (b := y % 16777216) (m := 16777216) (n := 16777216) (by omega) (by omega) (by omega) (by omega)
  rw [hA] at bA hs
  rw [hB] at bB hs
  rw [hC] at bC hs
  rw [hD] at bD hs
  have e6 : ∀ x y : Int, (decide (x < 0) == decide (y < 0)) = !(sgn x y) := fun x y => by simp [sgn, bne]
  have e7 : ∀ x y : Int, (x == y) = decide (x = y) := fun _ _ => rfl
  have HS := Lib.hid hs
  have HP := Lib.hid hp
  have HRB := Lib.hid hrb
  clear hr hr' hv hc hpp hqq hx hy hN hO hs hp hrb
  have H1 : A < 16777216 → r < 9223372036854775808 := by have := HR.out; have := HS.out; intro _; omega
  have H2 : 16777216 ≤ A → 70368744177664 < r := by have := HR.out; have := HS.out; intro _; omega
  have h1 := Lib.hid H1
  have h2 := Lib.hid H2
  clear H1 H2
  by_cases hfar : 16777216 ≤ A
  · go_enter Try.func14, Try.ntmps14
    go_wp2_with (first | (go_at_call 73; first | ((with_reducible refine hca.mono ?_); rintro e w' ⟨rfl, rfl⟩) | ((with_reducible refine hcb.mono ?_); rintro e w' ⟨rfl, rfl⟩)) | (go_at_call 74; first | ((with_reducible refine hpa.mono ?_); rintro e w' ⟨rfl, rfl⟩) | ((with_reducible refine hqa.mono ?_); rintro e w' ⟨rfl, rfl⟩)) | (go_at_call 75; refine (rback_of r _ v _ _ c _ (by simp) (by simp) HRB.out.1 (fun _ => h2.out hfar) HV.out HC.out).mono ?_; rintro e w' ⟨rfl, rfl⟩))
    all_goals go_ret2
    all_goals exact ⟨ret2 rfl (by simp [*]), rfl⟩
  · have hnf : A < 16777216 := by omega
    have h3 := h1.out hnf
    have hd : decide (16777216 ≤ A) = false := by simpa using hfar
    go_enter Try.func14, Try.ntmps14
    go_wp2_with (first | (go_at_call 73; first | ((with_reducible refine hca.mono ?_); rintro e w' ⟨rfl, rfl⟩) | ((with_reducible refine hcb.mono ?_); rintro e w' ⟨rfl, rfl⟩)) | (go_at_call 74; first | ((with_reducible refine hpa.mono ?_); rintro e w' ⟨rfl, rfl⟩) | ((with_reducible refine hqa.mono ?_); rintro e w' ⟨rfl, rfl⟩)) | (go_at_call 75; refine (rback_of r _ v _ _ c _ (fun _ => by have := HR.out; have := HS.out; omega) (fun _ => h3) HRB.out.1 (by simp) HV.out HC.out).mono ?_; rintro e w' ⟨rfl, rfl⟩))
    all_goals go_ret2
    all_goals exact ⟨ret2 rfl (by simp [*]), rfl⟩

/-- A number by 2, a tie to the even one. -/
def half1 (n : Int) : Int := rnd n 2
/-- A number by 2^24, a tie to the even one. -/
def half24 (n : Int) : Int := rnd n 16777216

theorem and1i (n : Int) : bits .and .i64 n 1 = n % 2 := by
  have h1 : (BitVec.ofInt 64 1).toNat = 2 ^ 1 - 1 := by decide
  have key : (BitVec.ofInt 64 n &&& BitVec.ofInt 64 1).toNat = (n % ((2 ^ 64 : Nat) : Int)).toNat % 2 ^ 1 := by
    rw [BitVec.toNat_and, BitVec.toNat_ofInt, h1, Nat.and_two_pow_sub_one_eq_mod]
  show IntKind.i64.wrap ((BitVec.ofInt 64 n &&& BitVec.ofInt 64 1).toNat : Nat) = n % 2
  rw [key, IntKind.wrap_i64]
  omega
theorem and1w (n : Int) (h : -9223372036854775808 ≤ n) (h2 : n < 9223372036854775808) : bits .and .u64 (IntKind.u64.wrap n) 1 = n % 2 := by
  rw [IntKind.wrap_u64, and1u _ (by omega) (by omega)]; omega
theorem and24w (n : Int) (h : -9223372036854775808 ≤ n) (h2 : n < 9223372036854775808) : bits .and .u64 (IntKind.u64.wrap n) 16777215 = n % 16777216 := by
  rw [IntKind.wrap_u64, and24 _ (by omega) (by omega)]; omega

set_option maxHeartbeats 400000 in
theorem half1_any (n : Int) (w : World) (h : -9223372036854775808 ≤ n) (h2 : n < 9223372036854775807) :
    Calls Try.prog 80 #[.int .i64 n, .int .i64 1] w fun e w' => e = .returned (.int .i64 (half1 n)) ∧ w = w' := by
  have e1 := and1i
  have e2 := and1w n h (by omega)
  have e7 : ∀ x y : Int, (x == y) = decide (x = y) := fun _ _ => rfl
  go_enter Try.func80, Try.ntmps80
  go_wp2
  all_goals
    go_ret
    exact ⟨retI (by unfold half1 rnd; first | rw [if_pos (by omega)] | rw [if_neg (by omega)]), rfl⟩

set_option maxHeartbeats 400000 in
theorem half24_any (n : Int) (w : World) (h : -9223372036854775808 ≤ n) (h2 : n < 9223372036854775807) :
    Calls Try.prog 80 #[.int .i64 n, .int .i64 24] w fun e w' => e = .returned (.int .i64 (half24 n)) ∧ w = w' := by
  have e1 := and1i
  have e2 := and24w n h (by omega)
  have e7 : ∀ x y : Int, (x == y) = decide (x = y) := fun _ _ => rfl
  go_enter Try.func80, Try.ntmps80
  go_wp2
  all_goals
    go_ret
    exact ⟨retI (by unfold half24 rnd; first | rw [if_pos (by omega)] | rw [if_neg (by omega)]), rfl⟩


set_option maxHeartbeats 400000 in
theorem round_any (a : Int) (w : World) :
    Calls Try.prog 27 #[.int .i64 a] w fun e w' => e = .returned (.int .i64 (half24 (cl a))) ∧ w = w' := by
  have := cl_bd a
  go_enter Try.func27, Try.ntmps27
  go_wp2_with (first | (go_at_call 82; refine (clamp_any _ _).mono ?_; rintro e w' ⟨rfl, rfl⟩) | (go_at_call 80; refine (half24_any _ _ (by omega) (by omega)).mono ?_; rintro e w' ⟨rfl, rfl⟩))
  go_ret
  exact ⟨rfl, rfl⟩

theorem t2cases (n : Int) : (n.tmod 2 = 0 ∧ n.tdiv 2 = n / 2 ∧ n % 2 = 0) ∨ (n.tmod 2 = 1 ∧ n.tdiv 2 = n / 2 ∧ n % 2 = 1) ∨ (n.tmod 2 = -1 ∧ n.tdiv 2 = n / 2 + 1 ∧ n % 2 = 1) := by
  rcases (by omega : n < 0 ∨ 0 ≤ n) with h | h
  · obtain ⟨m, rfl⟩ : ∃ m : Int, n = -m := ⟨-n, by omega⟩
    rw [Int.neg_tmod, Int.neg_tdiv, Int.tmod_eq_emod_of_nonneg (by omega), Int.tdiv_eq_ediv_of_nonneg (by omega)]
    omega
  · rw [Int.tmod_eq_emod_of_nonneg (by omega), Int.tdiv_eq_ediv_of_nonneg (by omega)]
    omega

set_option maxHeartbeats 400000 in
theorem rhalf1_any (n : Int) (w : World) (h : -9223372036854775808 ≤ n) (h2 : n < 9223372036854775807) :
    Calls Try.prog 91 #[.int .i64 n, .int .i64 1] w fun e w' => e = .returned (.int .i64 (half1 n)) ∧ w = w' := by
  have e7 : ∀ x y : Int, (x == y) = decide (x = y) := fun _ _ => rfl
  have e8 : ∀ x : Int, (x.tmod 2 != 0) = decide (x % 2 = 1) := fun x => by
    rcases t2cases x with h | h | h <;> rw [h.1] <;> simp [h.2.2]
  rcases t2cases n with ⟨h3, h4, h5⟩ | ⟨h3, h4, h5⟩ | ⟨h3, h4, h5⟩
  all_goals
    have H5 := Lib.hid h5
    clear h5
    go_enter Try.func91, Try.ntmps91
    go_wp2
    refine wp_loop_rounds 2 ?_
    rw [rounds_succ]
    go_wp2
    rw [rounds_succ]
    go_wp2
    all_goals
      go_ret
      have h5 := H5.out
      exact ⟨retI (by unfold half1 rnd; first | rw [if_pos (by omega)] | rw [if_neg (by omega)] | (rw [if_pos (by omega)]; omega) | (rw [if_neg (by omega)]; omega)), rfl⟩

end Go.Proofs.Ytijohedhbbddjaa
