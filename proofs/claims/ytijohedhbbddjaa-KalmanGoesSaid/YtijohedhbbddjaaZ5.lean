/- Texts of this claim, part 6: contracts of the functions that the law reaches. -/
import Derived.Test.YtijohedhbbddjaaZ2
import Derived.Test.YtijohedhbbddjaaZ3
import Derived.Test.YtijohedhbbddjaaZ4
import Derived.Test.YtijohedhbbddjaaZ0
import Derived.Deep.QuietTactic
import Derived.BigQuiet
import Derived.Deep.CutBlock
namespace Go.Proofs.Ytijohedhbbddjaa
open Go.RowKit

theorem lz_any (x : Int) (w : World) (h0 : 0 ≤ x) (h1 : x ≤ 18446744073709551615) :
    Calls Try.prog 117 #[.int .u64 x] w fun e w' => e = .returned (.int .i64 (64 - (Lib.bitLen x.toNat : Int))) ∧ w' = w := Try.bits_LeadingZeros64 x w h0 h1

theorem lz_of (y : Int) (w : World) (h0 : 0 < y) (h1 : y < 18446744073709551616) : ∃ s : Nat, s ≤ 63 ∧ 9223372036854775808 ≤ y * ((2 ^ s : Nat) : Int) ∧ y * ((2 ^ s : Nat) : Int) < 18446744073709551616 ∧
    Calls Try.prog 117 #[.int .u64 y] w fun e w' => e = .returned (.int .i64 (s : Int)) ∧ w = w' := by
  obtain ⟨n, rfl⟩ := Int.eq_ofNat_of_zero_le (show 0 ≤ y by omega)
  obtain ⟨a, b, c⟩ := Lib.bitLenAux_bounds 64 n (by omega) (by omega)
  have hL : Lib.bitLenAux 64 n ≤ 64 := by
    rcases Nat.lt_or_ge 64 (Lib.bitLenAux 64 n) with h | h
    · have := Nat.pow_le_pow_right (show 0 < 2 by omega) (show 64 ≤ Lib.bitLenAux 64 n - 1 by omega); omega
    · exact h
  refine ⟨64 - Lib.bitLenAux 64 n, by omega, ?_, ?_, ?_⟩
  · have := Nat.mul_le_mul_right (2 ^ (64 - Lib.bitLenAux 64 n)) b
    rw [← Nat.pow_add, show Lib.bitLenAux 64 n - 1 + (64 - Lib.bitLenAux 64 n) = 63 by omega] at this
    have h2 : ((n : Int) * ((2 ^ (64 - Lib.bitLenAux 64 n) : Nat) : Int)) = ((n * 2 ^ (64 - Lib.bitLenAux 64 n) : Nat) : Int) := by simp
    rw [h2]; omega
  · have := Nat.mul_lt_mul_of_pos_right c (Nat.two_pow_pos (64 - Lib.bitLenAux 64 n))
    rw [← Nat.pow_add, show Lib.bitLenAux 64 n + (64 - Lib.bitLenAux 64 n) = 64 by omega] at this
    have h2 : ((n : Int) * ((2 ^ (64 - Lib.bitLenAux 64 n) : Nat) : Int)) = ((n * 2 ^ (64 - Lib.bitLenAux 64 n) : Nat) : Int) := by simp
    rw [h2]; omega
  · refine (lz_any (n : Int) w (by omega) (by omega)).mono fun e w' ⟨he, hw⟩ => ⟨?_, hw.symm⟩
    rw [he]
    have : (64 - (Lib.bitLen ((n : Int)).toNat : Int)) = ((64 - Lib.bitLenAux 64 n : Nat) : Int) := by
      show (64 - (Lib.bitLenAux 64 ((n : Int)).toNat : Int)) = _
      rw [Int.toNat_natCast]; omega
    rw [this]

set_option maxRecDepth 100000 in
set_option maxHeartbeats 1000000 in
theorem div64_lo (lo y : Int) (w : World) (hl : 0 ≤ lo ∧ lo < 18446744073709551616) (hy : 0 < y ∧ y < 18446744073709551616) :
    Calls Try.prog 93 #[.int .u64 0, .int .u64 lo, .int .u64 y] w fun e w' => e = .returned (.tuple #[.int .u64 (lo / y), .int .u64 (lo % y)]) ∧ Below w.heap.size w w' := by
  obtain ⟨l0, l1⟩ := hl
  obtain ⟨y0, y1⟩ := hy
  have e7 : ∀ x y : Int, (x == y) = decide (x = y) := fun _ _ => rfl
  have hyn : ¬ y = 0 := by omega
  go_enter Try.func93, Try.ntmps93
  go_wp2_with fail
  go_quiet (fail)
  go_wp2_with fail
  go_ret2
  exact ⟨rfl, below_drewN' (Below.refl _ _) _⟩

theorem or_shift (h : Nat) (s r : Nat) (hr : r < 2 ^ s) (hh : h * 2 ^ s < 18446744073709551616) (hs : s ≤ 63) : bits .or .u64 ((h * 2 ^ s : Nat) : Int) (r : Int) = ((h * 2 ^ s + r : Nat) : Int) := by
  have hp : 2 ^ s < 18446744073709551616 := by
    have := Nat.pow_le_pow_right (show 0 < 2 by omega) hs; omega
  rw [bits_or_u64_nat _ _ hh (by omega)]
  congr 1
  rw [← Nat.shiftLeft_eq, ← Nat.shiftLeft_add_eq_or_of_lt hr]

/-- What normalising gives. -/
theorem div64_prep (hi lo y : Int) (s : Nat) (hs : s ≤ 63) (h0 : 0 < hi) (h1 : hi < y) (l0 : 0 ≤ lo) (l1 : lo < 18446744073709551616) (hY1 : y * ((2 ^ s : Nat) : Int) < 18446744073709551616) :
    ∃ p p' : Int, (2 : Int) ^ s = p ∧ (2 : Int) ^ (64 - s) = p' ∧ 0 < p ∧ 0 < p' ∧ p * p' = 18446744073709551616 ∧ IntKind.u64.wrap (y * p) = y * p ∧ IntKind.u64.wrap (hi * p) = hi * p ∧
      bits .or .u64 (hi * p) (lo / p') = hi * p + lo / p' ∧ (hi * p + lo / p') * 18446744073709551616 + IntKind.u64.wrap (lo * p) = (hi * 18446744073709551616 + lo) * p ∧ 0 ≤ hi * p + lo / p' ∧ hi * p + lo / p' < y * p ∧
      0 ≤ IntKind.u64.wrap (lo * p) ∧ IntKind.u64.wrap (lo * p) < 18446744073709551616 := by
  obtain ⟨n, rfl⟩ := Int.eq_ofNat_of_zero_le (show 0 ≤ hi by omega)
  obtain ⟨l, rfl⟩ := Int.eq_ofNat_of_zero_le l0
  have hp0 := Nat.two_pow_pos s
  have hp0' := Nat.two_pow_pos (64 - s)
  have hpp : 2 ^ s * 2 ^ (64 - s) = 18446744073709551616 := by rw [← Nat.pow_add, show s + (64 - s) = 64 by omega]
  have e1 : (2 : Int) ^ s = ((2 ^ s : Nat) : Int) := by simp
  have e2 : (2 : Int) ^ (64 - s) = ((2 ^ (64 - s) : Nat) : Int) := by simp
  refine ⟨((2 ^ s : Nat) : Int), ((2 ^ (64 - s) : Nat) : Int), e1, e2, by omega, by omega, by rw [← Int.natCast_mul, hpp]; rfl, ?_⟩
  generalize 2 ^ (64 - s) = P' at *
  have hor := or_shift n s (l / P')
  generalize 2 ^ s = P at *
  have hnp : (n : Int) * (P : Int) + P ≤ y * (P : Int) := by
    have := Int.mul_le_mul_of_nonneg_right (show (n : Int) + 1 ≤ y by omega) (show (0 : Int) ≤ P by omega)
    rw [Int.add_mul] at this; omega
  have hlt : l / P' < P := Nat.div_lt_of_lt_mul (by rw [Nat.mul_comm, hpp]; omega)
  have hyp : 0 ≤ (n : Int) * (P : Int) := Int.mul_nonneg (by omega) (by omega)
  have hcast : (n : Int) * (P : Int) = ((n * P : Nat) : Int) := by simp
  have hdiv : (l : Int) / (P' : Int) = ((l / P' : Nat) : Int) := by simp
  have hor' := hor hlt (by omega) hs
  have hd0 : 0 ≤ (l : Int) / (P' : Int) := by rw [hdiv]; exact Int.natCast_nonneg _
  have hd1 : (l : Int) / (P' : Int) < P := by rw [hdiv]; exact Int.ofNat_lt.2 hlt
  refine ⟨by rw [IntKind.wrap_u64]; omega, by rw [IntKind.wrap_u64]; omega, ?_, ?_, ?_, ?_, ?_, ?_⟩
  · show _ = _
    rw [hcast, hdiv, hor']; omega
  · show _ = _
    rw [IntKind.wrap_u64]
    have h3 : (l : Int) * (P : Int) / 18446744073709551616 = (l : Int) / (P' : Int) := by
      have : (18446744073709551616 : Int) = (P' : Int) * (P : Int) := by rw [← Int.natCast_mul, Nat.mul_comm, hpp]; rfl
      rw [this, Int.mul_ediv_mul_of_pos_left _ _ (by omega)]
    have h4 : (n : Int) * 18446744073709551616 * (P : Int) = (n : Int) * (P : Int) * 18446744073709551616 := by rw [Int.mul_assoc, Int.mul_comm 18446744073709551616, ← Int.mul_assoc]
    rw [Int.add_mul ((n : Int) * 18446744073709551616), h4]
    generalize (n : Int) * (P : Int) = A at *
    generalize (l : Int) * (P : Int) = B at *
    omega
  · omega
  · omega
  · rw [IntKind.wrap_u64]; omega
  · rw [IntKind.wrap_u64]; omega

set_option maxRecDepth 100000 in
set_option maxHeartbeats 1000000 in
theorem div64_hi (hi lo y : Int) (w : World) (hh : 0 < hi ∧ hi < y) (hl : 0 ≤ lo ∧ lo < 18446744073709551616) (hy : 0 < y ∧ y < 18446744073709551616) :
    Calls Try.prog 93 #[.int .u64 hi, .int .u64 lo, .int .u64 y] w fun e w' => e = .returned (.tuple #[.int .u64 ((hi * 18446744073709551616 + lo) / y), .int .u64 ((hi * 18446744073709551616 + lo) % y)]) ∧ w = w' := by
  obtain ⟨h0, h1⟩ := hh
  obtain ⟨l0, l1⟩ := hl
  obtain ⟨y0, y1⟩ := hy
  obtain ⟨s, hs, hY0, hY1, hlz⟩ := lz_of y w y0 y1
  obtain ⟨p, p', r0, r1, p0, p0', hpp, rY, rH, rU, hN, hU0, hU1, hX0, hX1⟩ := div64_prep hi lo y s hs h0 h1 l0 l1 hY1
  have hpc : ((2 ^ s : Nat) : Int) = p := by rw [← r0]; simp
  rw [hpc] at hY0 hY1
  obtain ⟨Y, hY⟩ : ∃ Y, y * p = Y := ⟨_, rfl⟩
  obtain ⟨U, hU⟩ : ∃ U, hi * p + lo / p' = U := ⟨_, rfl⟩
  obtain ⟨X, hX⟩ : ∃ X, IntKind.u64.wrap (lo * p) = X := ⟨_, rfl⟩
  rw [hY] at hY0 hY1 rY hU1
  rw [hU] at rU hN hU0 hU1
  rw [hX] at hN hX0 hX1
  obtain ⟨Y1, hYh⟩ : ∃ Y1, Y / 4294967296 = Y1 := ⟨_, rfl⟩
  obtain ⟨Y0, hYl⟩ : ∃ Y0, Y % 4294967296 = Y0 := ⟨_, rfl⟩
  obtain ⟨u1, hXh⟩ : ∃ u1, X / 4294967296 = u1 := ⟨_, rfl⟩
  obtain ⟨u0, hXl⟩ : ∃ u0, X % 4294967296 = u0 := ⟨_, rfl⟩
  have rYl : bits .and .u64 Y 4294967295 = Y0 := by rw [and_low32 _ (by omega) (by omega), hYl]
  have rXl : bits .and .u64 X 4294967295 = u0 := by rw [and_low32 _ (by omega) (by omega), hXl]
  have D1 := Dig.start (Y := Y) (y1 := Y1) (y0 := Y0) (U := U) (u := u1) (by omega) (by omega) (by omega) (by omega) (by omega) hU0 hU1 (by omega) (by omega)
  have hXX : X = u1 * 4294967296 + u0 := by omega
  have hu : 0 ≤ u0 ∧ u0 < 4294967296 ∧ 0 ≤ u1 ∧ u1 < 4294967296 := by omega
  have hY1b : 2147483648 ≤ Y1 ∧ Y1 < 4294967296 := by omega
  have hY0b : 0 ≤ Y0 ∧ Y0 < 4294967296 := by omega
  have hdiv : (hi * 18446744073709551616 + lo) / y = (U * 18446744073709551616 + u1 * 4294967296 + u0) / Y ∧ (hi * 18446744073709551616 + lo) % y = (U * 18446744073709551616 + u1 * 4294967296 + u0) % Y / p := by
    have e : U * 18446744073709551616 + u1 * 4294967296 + u0 = (hi * 18446744073709551616 + lo) * p := by rw [← hN, hXX]; omega
    rw [e, ← hY, Int.mul_ediv_mul_of_pos_left _ _ p0, Int.mul_comm _ p, Int.mul_comm y p, Int.mul_emod_mul_of_pos _ _ p0]
    exact ⟨rfl, by rw [Int.mul_ediv_cancel_left _ (by omega)]⟩
  rw [hdiv.1, hdiv.2, (two_digits (by omega) hU0).1, (two_digits (by omega) hU0).2]
  have hQ := Lib.hid (two_digits (Y := Y) (U := U) (u1 := u1) (u0 := u0) (by omega) hU0)
  obtain ⟨Q1, hQ1⟩ : ∃ Q, (U * 4294967296 + u1) / Y = Q := ⟨_, rfl⟩
  obtain ⟨R1, hR1⟩ : ∃ R, (U * 4294967296 + u1) % Y = R := ⟨_, rfl⟩
  have hR1b : 0 ≤ R1 ∧ R1 < Y := by rw [← hR1]; exact ⟨Int.emod_nonneg _ (by omega), Int.emod_lt_of_pos _ (by omega)⟩
  have hQR := Int.mul_ediv_add_emod (U * 4294967296 + u1) Y
  rw [hQ1, hR1] at hQR
  have D2 := Dig.start (Y := Y) (y1 := Y1) (y0 := Y0) (U := R1) (u := u0) (by omega) (by omega) (by omega) (by omega) (by omega) hR1b.1 hR1b.2 (by omega) (by omega)
  rw [hR1]
  rw [hQ1]
  obtain ⟨Q0, hQ0⟩ : ∃ Q, (R1 * 4294967296 + u0) / Y = Q := ⟨_, rfl⟩
  obtain ⟨R0, hR0⟩ : ∃ R, (R1 * 4294967296 + u0) % Y = R := ⟨_, rfl⟩
  have hQR0 := Int.mul_ediv_add_emod (R1 * 4294967296 + u0) Y
  rw [hQ0, hR0] at hQR0 ⊢
  have hR0b : 0 ≤ R0 ∧ R0 < Y := by rw [← hR0]; exact ⟨Int.emod_nonneg _ (by omega), Int.emod_lt_of_pos _ (by omega)⟩
  have hQ1b : 0 ≤ Q1 ∧ Q1 < 4294967296 := by
    rw [← hQ1]
    exact ⟨Int.ediv_nonneg (by omega) (by omega), Int.ediv_lt_of_lt_mul (by omega) (by omega)⟩
  have hQ0b : 0 ≤ Q0 ∧ Q0 < 4294967296 := by
    rw [← hQ0]
    exact ⟨Int.ediv_nonneg (by omega) (by omega), Int.ediv_lt_of_lt_mul (by omega) (by omega)⟩
  have s1 : IntKind.u64.wrap (IntKind.u64.wrap (IntKind.u64.wrap (U * 4294967296) + u1) - IntKind.u64.wrap (Q1 * Y)) = R1 := by
    simp only [IntKind.wrap_u64]
    rw [Int.mul_comm Q1 Y]
    generalize Y * Q1 = A at *
    omega
  have s2 : IntKind.u64.wrap (IntKind.u64.wrap (IntKind.u64.wrap (R1 * 4294967296) + u0) - IntKind.u64.wrap (Q0 * Y)) = R0 := by
    simp only [IntKind.wrap_u64]
    rw [Int.mul_comm Q0 Y]
    generalize Y * Q0 = A at *
    omega
  have HD1 := Lib.hid D1
  have HD2 := Lib.hid D2
  have HQ1 := Lib.hid hQ1
  have HQ0 := Lib.hid hQ0
  have hY1n : ¬ Y1 = 0 := by omega
  obtain ⟨y1b, y1c⟩ := hY1b
  obtain ⟨y0b, y0c⟩ := hY0b
  obtain ⟨q1b, q1c⟩ := hQ1b
  obtain ⟨q0b, q0c⟩ := hQ0b
  obtain ⟨r1b, r1c⟩ := hR1b
  obtain ⟨r0b, r0c⟩ := hR0b
  obtain ⟨u0b, u0c, u1b, u1c⟩ := hu
  obtain ⟨m1, hm1⟩ : ∃ m, U / Y1 * Y1 = m := ⟨_, rfl⟩
  have hm0 : 0 ≤ m1 := by rw [← hm1]; exact Int.mul_nonneg (Int.ediv_nonneg hU0 (by omega)) (by omega)
  have d1s : U - m1 < 4294967296 := by
    have h1 := Int.mul_ediv_add_emod U Y1
    have h2 := Int.emod_lt_of_pos U (show 0 < Y1 by omega)
    rw [Int.mul_comm, hm1] at h1
    omega
  rw [hm1] at D1
  have d1e := D1.eq
  have d1r := D1.r0
  have d1q := D1.q1
  clear d1e
  have hD1' := Lib.hid D1
  clear hQR hQR0 hQ1 hQ0 hR1 hR0 D1 D2 hYl hXl hdiv hN hpp hQ hXX hU hpc
  go_enter Try.func93, Try.ntmps93
  go_upto_block 0 with (first | (refine hlz.mono ?_; rintro e w' ⟨rfl, rfl⟩))
  go_cut [15, 16] (fun qv rv wx => w = wx ∧ qv = .int .u64 Q1)
  case first =>
    go_wp2_with fail
    go_loopg [15, 16] (4294967296 - (U - m1).toNat) (fun n qv rv wr => w = wr ∧ ∃ q r : Int, qv = .int .u64 q ∧ rv = .int .u64 r ∧ r < 4294967296 ∧ n = 4294967296 - r.toNat ∧ Dig Y Y1 Y0 U u1 q r)
    case atStart => exact ⟨rfl, _, _, rfl, rfl, d1s, rfl, hD1'.out⟩
    case round =>
      obtain ⟨rfl, q, r, rfl, rfl, hr1, rfl, hD⟩ := hrel
      have HD := Lib.hid hD
      obtain ⟨T, hT⟩ : ∃ T, q * Y0 = T := ⟨_, rfl⟩
      have hr0 := hD.r0
      have hq1 := hD.q1
      have hno := hD.no
      have hyes := hD.yes
      rw [hT, HQ1.out] at hno
      rw [hT] at hyes
      have hq0 : 0 ≤ q := by have := hD.le; rw [HQ1.out] at this; omega
      have hT0 : 0 ≤ T := by rw [← hT]; exact Int.mul_nonneg hq0 y0b
      have hT1 : q < 4294967296 → T < 18446744073709551616 := by
        intro h
        rw [← hT]
        have := Int.mul_le_mul (show q ≤ 4294967296 by omega) (show Y0 ≤ 4294967295 by omega) y0b (by omega)
        omega
      have HNo := Lib.hid hno
      have HYes := Lib.hid hyes
      have HT1 := Lib.hid hT1
      clear hno hyes hD hT1
      by_cases hbig : 4294967296 ≤ q
      · have H := HYes.out (Or.inl hbig)
        have hq2 := H.2.1
        have HB := Lib.hid (H.1.brk)
        have HD' := Lib.hid H.1
        clear H
        go_wp2_with fail
        · go_meet
          case rel => exact ⟨rfl, by rw [HB.out (by assumption) hq2, HQ1.out]⟩
        · go_roundg (4294967296 - (r + Y1).toNat)
          case measure => omega
          case rel => exact ⟨rfl, q - 1, r + Y1, rfl, rfl, by assumption, rfl, HD'.out⟩
      · have hT2 := HT1.out (by omega)
        by_cases hbig2 : 4294967296 * r + u1 < T
        · have H := HYes.out (Or.inr hbig2)
          have hq2 := H.2.1
          have hq3 := H.2.2
          have HB := Lib.hid (H.1.brk)
          have HD' := Lib.hid H.1
          clear H
          go_wp2_with fail
          · go_meet
            case rel => exact ⟨rfl, by rw [HB.out (by assumption) hq2, HQ1.out]⟩
          · go_roundg (4294967296 - (r + Y1).toNat)
            case measure => omega
            case rel => exact ⟨rfl, q - 1, r + Y1, rfl, rfl, by assumption, rfl, HD'.out⟩
        · have H := Lib.hid (HNo.out (by omega))
          go_wp2_with fail
          go_meet
          case rel => exact ⟨rfl, by rw [H.out]⟩
  case rest =>
    obtain ⟨rfl, rfl⟩ := hcut
    obtain ⟨m2, hm2⟩ : ∃ m, R1 / Y1 * Y1 = m := ⟨_, rfl⟩
    have hm3 : 0 ≤ m2 := by rw [← hm2]; exact Int.mul_nonneg (Int.ediv_nonneg r1b (by omega)) (by omega)
    have d2s : R1 - m2 < 4294967296 := by
      have h1 := Int.mul_ediv_add_emod R1 Y1
      have h2 := Int.emod_lt_of_pos R1 (show 0 < Y1 by omega)
      rw [Int.mul_comm, hm2] at h1
      omega
    have D2 := HD2.out
    rw [hm2] at D2
    have d2r := D2.r0
    have hD2' := Lib.hid D2
    clear D2
    go_upto_block 2 with fail
    go_cut [18, 16] (fun qv rv wx => w = wx ∧ qv = .int .u64 Q0)
    case first =>
      go_wp2_with fail
      go_loopg [18, 16] (4294967296 - (R1 - m2).toNat) (fun n qv rv wr => w = wr ∧ ∃ q r : Int, qv = .int .u64 q ∧ rv = .int .u64 r ∧ r < 4294967296 ∧ n = 4294967296 - r.toNat ∧ Dig Y Y1 Y0 R1 u0 q r)
      case atStart => exact ⟨rfl, _, _, rfl, rfl, d2s, rfl, hD2'.out⟩
      case round =>
        obtain ⟨rfl, q, r, rfl, rfl, hr1, rfl, hD⟩ := hrel
        have HD := Lib.hid hD
        obtain ⟨T, hT⟩ : ∃ T, q * Y0 = T := ⟨_, rfl⟩
        have hr0 := hD.r0
        have hq1 := hD.q1
        have hno := hD.no
        have hyes := hD.yes
        rw [hT, HQ0.out] at hno
        rw [hT] at hyes
        have hq0 : 0 ≤ q := by have := hD.le; rw [HQ0.out] at this; omega
        have hT0 : 0 ≤ T := by rw [← hT]; exact Int.mul_nonneg hq0 y0b
        have hT1 : q < 4294967296 → T < 18446744073709551616 := by
          intro h
          rw [← hT]
          have := Int.mul_le_mul (show q ≤ 4294967296 by omega) (show Y0 ≤ 4294967295 by omega) y0b (by omega)
          omega
        have HNo := Lib.hid hno
        have HYes := Lib.hid hyes
        have HT1 := Lib.hid hT1
        clear hno hyes hD hT1
        by_cases hbig : 4294967296 ≤ q
        · have H := HYes.out (Or.inl hbig)
          have hq2 := H.2.1
          have HB := Lib.hid (H.1.brk)
          have HD' := Lib.hid H.1
          clear H
          go_wp2_with fail
          · go_meet
            case rel => exact ⟨rfl, by rw [HB.out (by assumption) hq2, HQ0.out]⟩
          · go_roundg (4294967296 - (r + Y1).toNat)
            case measure => omega
            case rel => exact ⟨rfl, q - 1, r + Y1, rfl, rfl, by assumption, rfl, HD'.out⟩
        · have hT2 := HT1.out (by omega)
          by_cases hbig2 : 4294967296 * r + u0 < T
          · have H := HYes.out (Or.inr hbig2)
            have hq2 := H.2.1
            have hq3 := H.2.2
            have HB := Lib.hid (H.1.brk)
            have HD' := Lib.hid H.1
            clear H
            go_wp2_with fail
            · go_meet
              case rel => exact ⟨rfl, by rw [HB.out (by assumption) hq2, HQ0.out]⟩
            · go_roundg (4294967296 - (r + Y1).toNat)
              case measure => omega
              case rel => exact ⟨rfl, q - 1, r + Y1, rfl, rfl, by assumption, rfl, HD'.out⟩
          · have H := Lib.hid (HNo.out (by omega))
            go_wp2_with fail
            go_meet
            case rel => exact ⟨rfl, by rw [H.out]⟩
    case rest =>
      obtain ⟨rfl, rfl⟩ := hcut
      go_wp2_with fail
      go_ret2
      exact ⟨rfl, rfl⟩

theorem div64_any (hi lo y : Int) (w : World) (hh : 0 ≤ hi ∧ hi < y) (hl : 0 ≤ lo ∧ lo < 18446744073709551616) (hy : y < 18446744073709551616) :
    Calls Try.prog 93 #[.int .u64 hi, .int .u64 lo, .int .u64 y] w fun e w' => e = .returned (.tuple #[.int .u64 ((hi * 18446744073709551616 + lo) / y), .int .u64 ((hi * 18446744073709551616 + lo) % y)]) ∧ Below w.heap.size w w' := by
  by_cases h : hi = 0
  · subst h
    have := div64_lo lo y w hl ⟨by omega, hy⟩
    simpa using this
  · exact (div64_hi hi lo y w ⟨by omega, hh.2⟩ hl ⟨by omega, hy⟩).mono fun _ _ ⟨he, hw⟩ => ⟨he, hw ▸ Below.refl _ _⟩

end Go.Proofs.Ytijohedhbbddjaa

namespace Go.Proofs.Ytijohedhbbddjaa
open Go.RowKit

theorem rnd_of {N y r : Int} (h : rnd N y = r) : ((y < 2 * (N % y) ∨ (2 * (N % y) = y ∧ N / y % 2 = 1)) ∧ r = N / y + 1) ∨ ((¬ (y < 2 * (N % y) ∨ (2 * (N % y) = y ∧ N / y % 2 = 1))) ∧ r = N / y) := by
  subst h; unfold rnd; split
  · exact Or.inl ⟨‹_›, rfl⟩
  · exact Or.inr ⟨‹_›, rfl⟩

theorem div_zero_any (a b : Int) (w : World) (h : cl b = 0) :
    Calls Try.prog 41 #[.int .i64 a, .int .i64 b] w fun e w' => e = .returned (.tuple #[.int .i64 (divQ a b), .bool (divO a b)]) ∧ w = w' := by
  obtain ⟨o, ho⟩ : ∃ o, (clo a || clo b) = o := ⟨_, rfl⟩
  have hboth := both_of a b o ho w
  rw [h] at hboth
  obtain ⟨p, hp⟩ : ∃ p, cl a = p := ⟨_, rfl⟩
  have hQ : divQ a b = (if 0 < p then 70368744177663 else if p < 0 then -70368744177664 else 0) := by unfold divQ; rw [if_pos h, hp]
  have hO : divO a b = true := by unfold divO; rw [if_pos h]
  rw [hp] at hboth
  rw [hQ, hO]
  clear hQ hO hp ho h
  go_enter Try.func41, Try.ntmps41
  go_wp2_with (first | (go_at_call 81; refine hboth.mono ?_; rintro e w' ⟨rfl, rfl⟩))
  all_goals
    go_ret2
    refine ⟨ret2 ?_ rfl, rfl⟩
    first | rfl | rw [if_pos (by omega)] | (rw [if_neg (by omega), if_pos (by omega)]) | (rw [if_neg (by omega), if_neg (by omega)])

set_option maxRecDepth 100000 in
set_option maxHeartbeats 1000000 in
theorem div_nz_any (a b : Int) (w : World) (h : cl b ≠ 0) :
    Calls Try.prog 41 #[.int .i64 a, .int .i64 b] w fun e w' => e = .returned (.tuple #[.int .i64 (divQ a b), .bool (divO a b)]) ∧ Below w.heap.size w w' := by
  have ha := cl_bd a
  have hb := cl_bd b
  have haa := ab_bd a
  have hbb := ab_bd b
  have hy0 : 1 ≤ ab (cl b) := by unfold ab; omega
  obtain ⟨o, ho⟩ : ∃ o, (clo a || clo b) = o := ⟨_, rfl⟩
  have hboth := both_of a b o ho w
  obtain ⟨p, hpp⟩ : ∃ p, cl a = p := ⟨_, rfl⟩
  obtain ⟨q, hqq⟩ : ∃ q, cl b = q := ⟨_, rfl⟩
  obtain ⟨x, hx⟩ : ∃ x, ab p = x := ⟨_, rfl⟩
  obtain ⟨y, hy⟩ : ∃ y, ab q = y := ⟨_, rfl⟩
  obtain ⟨N, hN⟩ : ∃ N, x * 16777216 = N := ⟨_, rfl⟩
  obtain ⟨r, hr⟩ : ∃ r, rnd N y = r := ⟨_, rfl⟩
  obtain ⟨v, hv⟩ : ∃ v, divQ a b = v := ⟨_, rfl⟩
  obtain ⟨c, hc⟩ : ∃ c, clo (divE a b) = c := ⟨_, rfl⟩
  have hE : divE a b = neg (sgn p q) r := by rw [← hr, ← hN, ← hx, ← hy, ← hpp, ← hqq]; rfl
  have HV : Hid (cl (neg (sgn p q) r) = v) := by show _ = _; rw [← hv, ← hE]; unfold divQ; rw [if_neg h]
  have HC : Hid (clo (neg (sgn p q) r) = c) := by show _ = _; rw [← hc, hE]
  have hO : divO a b = (o || c) := by unfold divO; rw [if_neg h, hc, ho]
  have HR := Lib.hid (rnd_of hr)
  rw [hpp, hqq] at hboth
  rw [hpp] at ha haa
  rw [hqq] at hb hbb hy0 h
  rw [hx] at haa
  rw [hy] at hbb hy0
  rw [hv, hO]
  obtain ⟨l, hl⟩ : ∃ l, N % 18446744073709551616 = l := ⟨_, rfl⟩
  obtain ⟨hi, hhi⟩ : ∃ hi, x / 1099511627776 = hi := ⟨_, rfl⟩
  have e2 : IntKind.u64.wrap N = l := by rw [IntKind.wrap_u64, hl]
  have hNN : hi * 18446744073709551616 + l = N := by omega
  have hlb : 0 ≤ l ∧ l < 18446744073709551616 := by omega
  have hhb : 0 ≤ hi ∧ hi ≤ 64 := by omega
  have hxs := size_any p w (by omega) (by omega)
  have hys := size_any q w (by omega) (by omega)
  rw [hx] at hxs
  rw [hy] at hys
  have e6 : ∀ x y : Int, (decide (x < 0) == decide (y < 0)) = !(sgn x y) := fun x y => by simp [sgn, bne]
  have e7 : ∀ x y : Int, (x == y) = decide (x = y) := fun _ _ => rfl
  by_cases hfar : y ≤ hi
  · -- too far: above the bounds whatever it is
    have hr2 : 18446744073709551616 ≤ r := by
      have h1 := Int.le_ediv_of_mul_le (show 0 < y by omega) (show 18446744073709551616 * y ≤ N by omega)
      have := HR.out
      omega
    have hcc : c = true := by
      rw [← HC.out]
      cases hs : sgn p q <;> simp [neg, clo] <;> omega
    have hv1 : cl (neg (sgn p q) (1 * 18446744073709551616 + 0)) = v := by
      rw [← HV.out]
      cases hs : sgn p q <;> simp only [neg, cl, Bool.false_eq_true, if_false, if_true] <;> (repeat' split) <;> omega
    have hc1 : clo (neg (sgn p q) (1 * 18446744073709551616 + 0)) = true := by cases hs : sgn p q <;> simp [neg, clo]
    have HV1 := Lib.hid hv1
    have HC1 := Lib.hid hc1
    subst hcc
    clear hr2 hv1 hc1 hv hc hE hO hr hpp hqq hx hy ho hl hNN
    go_enter Try.func41, Try.ntmps41
    go_wp2_with (first | (go_at_call 81; (with_reducible refine hboth.mono ?_); rintro e w' ⟨rfl, rfl⟩) | (go_at_call 84; first | ((with_reducible refine hxs.mono ?_); rintro e w' ⟨rfl, rfl⟩) | ((with_reducible refine hys.mono ?_); rintro e w' ⟨rfl, rfl⟩)) | (go_at_call 85; refine (signed_of _ _ _ v true _ _ ⟨by omega, by omega⟩ ⟨by omega, by omega⟩ rfl HV1.out HC1.out).mono ?_; rintro e w' ⟨rfl, hb⟩))
    go_ret2
    exact ⟨ret2 rfl (by simp), ‹_›⟩
  · have hlt : hi < y := by omega
    have hr2 : N / y < 18446744073709551615 := by
      apply Int.ediv_lt_of_lt_mul (by omega)
      omega
    have hq0 : 0 ≤ N / y := Int.ediv_nonneg (by omega) (by omega)
    have hm0 := Int.emod_nonneg N (show y ≠ 0 by omega)
    have hm1 := Int.emod_lt_of_pos N (show 0 < y by omega)
    have hd := div64_any hi l y w ⟨by omega, hlt⟩ hlb (by omega)
    rw [hNN] at hd
    obtain ⟨Q, hQ⟩ : ∃ Q, N / y = Q := ⟨_, rfl⟩
    obtain ⟨m, hm⟩ : ∃ m, N % y = m := ⟨_, rfl⟩
    have hR := HR.out
    rw [hQ, hm] at hd hR
    rw [hQ] at hr2 hq0
    rw [hm] at hm0 hm1
    have e3 : bits .and .u64 Q 1 = Q % 2 := and1u Q hq0 (by omega)
    have HRR := Lib.hid hR
    have e5 : IntKind.u64.wrap (Q + 1) = Q + 1 := by rw [IntKind.wrap_u64]; omega
    have HQ2 := Lib.hid hr2
    clear hr2 e7
    have e8 : (m == y - m) = decide (2 * m = y) := by rw [Bool.eq_iff_iff]; simp; omega
    have e9 : (Q % 2 == 1) = decide (Q % 2 = 1) := rfl
    clear hv hc hE hO hr hpp hqq hx hy ho hl hNN HR hR hQ hm
    go_enter Try.func41, Try.ntmps41
    go_wp2_with (first | (go_at_call 81; (with_reducible refine hboth.mono ?_); rintro e w' ⟨rfl, rfl⟩) | (go_at_call 84; first | ((with_reducible refine hxs.mono ?_); rintro e w' ⟨rfl, rfl⟩) | ((with_reducible refine hys.mono ?_); rintro e w' ⟨rfl, rfl⟩)) | (go_at_call 93; refine hd.mono ?_; rintro e w1 ⟨rfl, hb1⟩) | (go_at_call 85; refine (signed_of _ _ r v c _ _ ⟨by omega, by omega⟩ ⟨by omega, by have := HQ2.out; omega⟩ (by have := HRR.out; omega) HV.out HC.out).mono ?_; rintro e w2 ⟨rfl, hb2⟩))
    all_goals go_ret2
    all_goals exact ⟨ret2 rfl (by simp [*]), below_trans2 hb1 hb2⟩

theorem div_any (a b : Int) (w : World) :
    Calls Try.prog 41 #[.int .i64 a, .int .i64 b] w fun e w' => e = .returned (.tuple #[.int .i64 (divQ a b), .bool (divO a b)]) ∧ Below w.heap.size w w' := by
  by_cases h : cl b = 0
  · exact (div_zero_any a b w h).mono fun _ _ ⟨he, hw⟩ => ⟨he, hw ▸ Below.refl _ _⟩
  · exact div_nz_any a b w h

end Go.Proofs.Ytijohedhbbddjaa
