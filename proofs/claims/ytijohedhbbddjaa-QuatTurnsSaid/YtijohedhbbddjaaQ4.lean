/- The walk of qfix.Sqrt. -/
import Derived.Test.YtijohedhbbddjaaQ3
namespace Go.Proofs.Ytijohedhbbddjaa
open Go.RowKit

/-- r is the whole root of N. -/
def IsRt (N r : Int) : Prop := 0 ≤ r ∧ r * r ≤ N ∧ N < (r + 1) * (r + 1)

/-- With j bits to come: r is the root but for them. -/
def RtAt (N : Int) (j : Nat) (r : Int) : Prop := ∃ m : Nat, r = (m * 2 ^ j : Nat) ∧ r * r ≤ N ∧ N < (r + (2 ^ j : Nat)) * (r + (2 ^ j : Nat))

def bitAt (j : Nat) : Int := if j = 0 then 0 else ((2 ^ (j - 1) : Nat) : Int)

theorem or_pow (m j : Nat) (hj : j ≤ 35) (hm : m * 2 ^ (j + 1) < 18446744073709551616) : bits .or .u64 ((m * 2 ^ (j + 1) : Nat) : Int) ((2 ^ j : Nat) : Int) = ((m * 2 ^ (j + 1) + 2 ^ j : Nat) : Int) := by
  have hp : 2 ^ j < 18446744073709551616 := by
    have := Nat.pow_le_pow_right (show 0 < 2 by omega) hj; omega
  rw [bits_or_u64_nat _ _ hm hp]
  congr 1
  rw [← Nat.shiftLeft_eq, ← Nat.shiftLeft_add_eq_or_of_lt]
  rw [Nat.pow_succ]; have := Nat.two_pow_pos j; omega

theorem rt_lt {N r : Int} {j : Nat} (h : RtAt N j r) (hN : N < 1180591620717411303424) : 0 ≤ r ∧ r < 34359738368 := by
  obtain ⟨m, rfl, h1, -⟩ := h
  refine ⟨by omega, ?_⟩
  rcases (by omega : ((m * 2 ^ j : Nat) : Int) < 34359738368 ∨ (34359738368 : Int) ≤ ((m * 2 ^ j : Nat) : Int)) with h | h
  · exact h
  · have := Int.mul_le_mul h h (by omega) (by omega)
    omega

theorem rt_yes {N : Int} {j m : Nat} (h : RtAt N (j + 1) ((m * 2 ^ (j + 1) : Nat) : Int)) (hc : ((m * 2 ^ (j + 1) + 2 ^ j : Nat) : Int) * ((m * 2 ^ (j + 1) + 2 ^ j : Nat) : Int) ≤ N) : RtAt N j ((m * 2 ^ (j + 1) + 2 ^ j : Nat) : Int) := by
  obtain ⟨m', he, h1, h2⟩ := h
  refine ⟨2 * m + 1, by rw [Nat.pow_succ]; congr 1; grind, hc, ?_⟩
  have e : (((m * 2 ^ (j + 1) + 2 ^ j : Nat) : Int) + ((2 ^ j : Nat) : Int)) = (((m * 2 ^ (j + 1) : Nat) : Int) + ((2 ^ (j + 1) : Nat) : Int)) := by rw [Nat.pow_succ]; omega
  rw [e]; exact h2
theorem rt_no {N : Int} {j m : Nat} (h : RtAt N (j + 1) ((m * 2 ^ (j + 1) : Nat) : Int)) (hc : N < ((m * 2 ^ (j + 1) + 2 ^ j : Nat) : Int) * ((m * 2 ^ (j + 1) + 2 ^ j : Nat) : Int)) : RtAt N j ((m * 2 ^ (j + 1) : Nat) : Int) := by
  obtain ⟨m', he, h1, h2⟩ := h
  refine ⟨2 * m, by rw [Nat.pow_succ]; congr 1; grind, h1, ?_⟩
  have e : (((m * 2 ^ (j + 1) : Nat) : Int) + ((2 ^ j : Nat) : Int)) = ((m * 2 ^ (j + 1) + 2 ^ j : Nat) : Int) := by omega
  rw [e]; exact hc
theorem rt_end {N r : Int} (h : RtAt N 0 r) : IsRt N r := by
  obtain ⟨m, rfl, h1, h2⟩ := h
  exact ⟨by omega, h1, by simpa using h2⟩
theorem bit_half (j : Nat) : bitAt (j + 1) / 2 = bitAt j := by
  unfold bitAt
  cases j with
  | zero => decide
  | succ j => simp only [Nat.add_sub_cancel]; rw [if_neg (by omega), if_neg (by omega), Nat.pow_succ]; omega

set_option maxHeartbeats 1000000 in
theorem sqrt_any (a : Int) (w : World) :
    Calls Try.prog 26 #[.int .i64 a] w fun e w' => w = w' ∧ ((cl a < 0 ∧ e = .returned (.tuple #[.int .i64 0, .bool true])) ∨ (0 ≤ cl a ∧ ∃ r, e = .returned (.tuple #[.int .i64 r, .bool (clo a)]) ∧ IsRt (cl a * 16777216) r)) := by
  have hc := clamp_any a w
  have hb := cl_bd a
  obtain ⟨p, hp⟩ : ∃ p, cl a = p := ⟨_, rfl⟩
  rw [hp] at hc hb ⊢
  clear hp
  have e7 : ∀ x y : Int, (x == y) = decide (x = y) := fun _ _ => rfl
  by_cases hneg : p < 0
  · go_enter Try.func26, Try.ntmps26
    go_wp2_with (go_at_call 82; refine hc.mono ?_; rintro e w' ⟨rfl, rfl⟩)
    go_ret2
    exact ⟨rfl, Or.inl ⟨hneg, rfl⟩⟩
  · have hp0 : 0 ≤ p := by omega
    obtain ⟨N, hN⟩ : ∃ N, p * 16777216 = N := ⟨_, rfl⟩
    have hN1 : 0 ≤ N ∧ N < 1180591620717411303424 := by omega
    have e1 : p / 1099511627776 = N / 18446744073709551616 := by omega
    have e2 : IntKind.u64.wrap N = N % 18446744073709551616 := IntKind.wrap_u64 N
    have HN1 := Lib.hid hN1
    clear hN1 hneg
    go_enter Try.func26, Try.ntmps26
    go_wp2_with (go_at_call 82; refine hc.mono ?_; rintro e w' ⟨rfl, rfl⟩)
    clear e1 e2 hc
    go_loopg [7, 8] 36 (fun n rv bv wr => w = wr ∧ ∃ r : Int, rv = .int .u64 r ∧ bv = .int .u64 (bitAt n) ∧ n ≤ 36 ∧ RtAt N n r)
    case atStart => exact ⟨rfl, 0, rfl, rfl, by omega, 0, by simp, by have := HN1.out; omega, by have := HN1.out; simp; omega⟩
    case round =>
      obtain ⟨rfl, r, rfl, rfl, hn, hr⟩ := hrel
      have HR := Lib.hid hr
      clear hr
      cases gk with
      | zero =>
        have e3 : bitAt 0 = 0 := rfl
        have hb := rt_lt HR.out HN1.out.2
        go_wp2_with fail
        go_ret2
        exact ⟨rfl, Or.inr ⟨hp0, r, rfl, by rw [hN]; exact rt_end HR.out⟩⟩
      | succ j =>
        obtain ⟨m, rfl, h1, h2⟩ := id HR.out
        have hb := rt_lt HR.out HN1.out.2
        have hbit : bitAt (j + 1) = ((2 ^ j : Nat) : Int) := by unfold bitAt; rw [if_neg (by omega)]; rfl
        have hpw : 2 ^ j ≤ 34359738368 := Nat.pow_le_pow_right (show 0 < 2 by omega) (show j ≤ 35 by omega)
        have hpw0 := Nat.two_pow_pos j
        have hor := or_pow m j (by omega) (by omega)
        have hhalf := bit_half j
        rw [hbit] at hhalf
        obtain ⟨R, hR⟩ : ∃ R, m * 2 ^ (j + 1) = R := ⟨_, rfl⟩
        obtain ⟨B, hB⟩ : ∃ B, 2 ^ j = B := ⟨_, rfl⟩
        have hyes := rt_yes HR.out
        have hno := rt_no HR.out
        rw [hR, hB] at hyes hno hor
        rw [hR] at hb h1 h2 ⊢
        rw [hB] at hpw hpw0 hbit hhalf
        have HY := Lib.hid hyes
        have HNo := Lib.hid hno
        have hRr := HR.out
        rw [hR] at hRr
        clear hyes hno h1 h2 hR hB HR hRr
        obtain ⟨S, hS⟩ : ∃ S : Int, ((R + B : Nat) : Int) * ((R + B : Nat) : Int) = S := ⟨_, rfl⟩
        have hS1 : 0 ≤ S ∧ S < 18889465931478580854784 := by
          rw [← hS]
          refine ⟨Int.mul_nonneg (by omega) (by omega), ?_⟩
          have := Int.mul_le_mul (show ((R + B : Nat) : Int) ≤ 68719476736 by omega) (show ((R + B : Nat) : Int) ≤ 68719476736 by omega) (by omega) (by omega)
          omega
        rw [hS] at HY HNo
        have HS1 := Lib.hid hS1
        have HN2 := HN1
        have hmul := mul64_any ((R + B : Nat) : Int) ((R + B : Nat) : Int) w (by omega) (by omega) (by omega) (by omega)
        rw [hS] at hmul
        clear hS hS1
        obtain ⟨C, hC⟩ : ∃ C : Int, ((R + B : Nat) : Int) = C := ⟨_, rfl⟩
        have hCb : C = R + B := by omega
        rw [hC] at hmul hor HY
        clear hC
        have HC := Lib.hid hCb
        clear hCb
        have hC1 : 0 ≤ C ∧ C < 18446744073709551616 := by have := HC.out; omega
        go_wp2_with (go_at_call 83; refine hmul.mono ?_; rintro e w' ⟨rfl, rfl⟩)
        · go_roundg j
          case measure => omega
          case rel => exact ⟨rfl, C, rfl, rfl, by omega, HY.out (by omega)⟩
        · go_roundg j
          case measure => omega
          case rel => exact ⟨rfl, C, rfl, rfl, by omega, HY.out (by omega)⟩
        · go_roundg j
          case measure => omega
          case rel => exact ⟨rfl, R, rfl, rfl, by omega, HNo.out (by omega)⟩
        · go_roundg j
          case measure => omega
          case rel => exact ⟨rfl, R, rfl, rfl, by omega, HNo.out (by omega)⟩

end Go.Proofs.Ytijohedhbbddjaa
