/- Texts of this claim, part 7: contracts of the functions that the law reaches. -/
import Derived.Test.YtijohedhbbddjaaZ5
import Derived.Test.YtijohedhbbddjaaZ2
namespace Go.Proofs.Ytijohedhbbddjaa
open Go.RowKit

/-- Behind i bits of the quotient x / y. -/
def DAt (x y : Int) (i : Nat) (Q m : Int) : Prop := Q * y + m = x * (2 ^ i : Nat) ∧ 0 ≤ m ∧ m < y ∧ 0 ≤ Q ∧ Q < ((16777216 * 2 ^ i : Nat) : Int)
theorem DAt.lo {x y Q m : Int} {i : Nat} (h : DAt x y i Q m) (hc : m * 2 < y) : DAt x y (i + 1) (Q * 2) (m * 2) := by
  obtain ⟨h1, h2, h3, h4, h5⟩ := h
  refine ⟨?_, by omega, by omega, by omega, by rw [Nat.pow_succ]; omega⟩
  rw [Nat.pow_succ]; push_cast; grind
theorem DAt.hi {x y Q m : Int} {i : Nat} (h : DAt x y i Q m) (hc : y ≤ m * 2) : DAt x y (i + 1) (Q * 2 + 1) (m * 2 - y) := by
  obtain ⟨h1, h2, h3, h4, h5⟩ := h
  refine ⟨?_, by omega, by omega, by omega, by rw [Nat.pow_succ]; omega⟩
  rw [Nat.pow_succ]; push_cast; grind
theorem DAt.bd {x y Q m : Int} {i : Nat} (h : DAt x y i Q m) (hi : i ≤ 24) : Q < 281474976710656 := by
  have := h.2.2.2.2
  have := Nat.pow_le_pow_right (show 0 < 2 by omega) hi
  omega
theorem DAt.fin {x y Q m : Int} (h : DAt x y 24 Q m) : x * 16777216 / y = Q ∧ x * 16777216 % y = m := by
  obtain ⟨h1, h2, h3, h4, h5⟩ := h
  have e : x * 16777216 = m + y * Q := by rw [show ((2 ^ 24 : Nat) : Int) = 16777216 by decide] at h1; grind
  rw [e, Int.add_mul_ediv_left _ _ (by omega), Int.add_mul_emod_self_left, Int.ediv_eq_zero_of_lt h2 h3, Int.emod_eq_of_lt h2 h3]
  simp
theorem DAt.start {x y : Int} (hy : 0 < y) (hx : 0 ≤ x) (hn : x / y < 16777216) : DAt x y 0 (x / y) (x % y) :=
  ⟨by have := Int.mul_ediv_add_emod x y; rw [Int.mul_comm] at this; simpa using this, Int.emod_nonneg _ (by omega), Int.emod_lt_of_pos _ hy, Int.ediv_nonneg hx (by omega), by simpa using hn⟩

theorem little_math {s a A T D : Int} (hA : s / 262144 * (s / 262144) = A) (hT : 2 * (s / 262144) * (s % 262144) = T) (hD : s % 262144 * (s % 262144) = D) (h0 : 0 ≤ T) (h1 : 0 ≤ D) :
    decide (s * s ≤ a * 16777216) = (decide (A * 4096 + T / 64 + D / 16777216 + (T % 64 * 262144 + D % 16777216) / 16777216 < a) || (decide (A * 4096 + T / 64 + D / 16777216 + (T % 64 * 262144 + D % 16777216) / 16777216 = a) && decide ((T % 64 * 262144 + D % 16777216) % 16777216 = 0))) := by
  have e : s * s = A * 68719476736 + T * 262144 + D := by
    rw [← hA, ← hT, ← hD]
    have es : s = s / 262144 * 262144 + s % 262144 := by omega
    generalize s / 262144 = u at *
    generalize s % 262144 = v at *
    subst es
    grind
  rw [e, Bool.eq_iff_iff]
  simp only [decide_eq_true_eq, Bool.or_eq_true, Bool.and_eq_true]
  omega

set_option maxRecDepth 100000 in
set_option maxHeartbeats 1000000 in
theorem rdiv_any (a b : Int) (w : World) :
    Calls Try.prog 42 #[.int .i64 a, .int .i64 b] w fun e w' => e = .returned (.tuple #[.int .i64 (divQ a b), .bool (divO a b)]) ∧ w = w' := by
  have hca := rclamp_any a w
  have hcb := rclamp_any b w
  have ha := cl_bd a
  have hb := cl_bd b
  have haa := ab_bd a
  have hbb := ab_bd b
  by_cases h : cl b = 0
  · obtain ⟨p, hp⟩ : ∃ p, cl a = p := ⟨_, rfl⟩
    have hQ : divQ a b = (if 0 < p then 70368744177663 else if p < 0 then -70368744177664 else 0) := by unfold divQ; rw [if_pos h, hp]
    have hO : divO a b = true := by unfold divO; rw [if_pos h]
    rw [hp] at hca
    rw [h] at hcb
    rw [hQ, hO]
    clear hQ hO hp h ha hb haa hbb
    go_enter Try.func42, Try.ntmps42
    go_wp2_with (first | (go_at_call 73; first | ((with_reducible refine hca.mono ?_); rintro e w' ⟨rfl, rfl⟩) | ((with_reducible refine hcb.mono ?_); rintro e w' ⟨rfl, rfl⟩)))
    all_goals
      go_ret2
      refine ⟨ret2 ?_ rfl, rfl⟩
      first | rfl | rw [if_pos (by omega)] | (rw [if_neg (by omega), if_pos (by omega)]) | (rw [if_neg (by omega), if_neg (by omega)])
  · have hy0 : 1 ≤ ab (cl b) := by unfold ab; omega
    obtain ⟨o, ho⟩ : ∃ o, (clo a || clo b) = o := ⟨_, rfl⟩
    obtain ⟨p, hpp⟩ : ∃ p, cl a = p := ⟨_, rfl⟩
    obtain ⟨q, hqq⟩ : ∃ q, cl b = q := ⟨_, rfl⟩
    obtain ⟨x, hx⟩ : ∃ x, ab p = x := ⟨_, rfl⟩
    obtain ⟨y, hy⟩ : ∃ y, ab q = y := ⟨_, rfl⟩
    obtain ⟨N, hN⟩ : ∃ N, x * 16777216 = N := ⟨_, rfl⟩
    obtain ⟨r, hr⟩ : ∃ r, rnd N y = r := ⟨_, rfl⟩
    obtain ⟨v, hv⟩ : ∃ v, divQ a b = v := ⟨_, rfl⟩
    obtain ⟨c, hc⟩ : ∃ c, clo (divE a b) = c := ⟨_, rfl⟩
    have hE : divE a b = neg (sgn p q) r := by rw [← hr, ← hN, ← hx, ← hy, ← hpp, ← hqq]; rfl
    have HV : Hid (cl (neg (sgn p q) r) = v) := by show _ = _; rw [← hv, ← hE]; unfold divQ; rw [if_neg h]
    have HC : Hid (clo (neg (sgn p q) r) = c) := by show _ = _; rw [← hc, hE]
    have hO : divO a b = ((clo a || clo b) || c) := by unfold divO; rw [if_neg h, hc]
    have HR := Lib.hid (rnd_of hr)
    rw [hpp] at ha haa hca
    rw [hqq] at hb hbb hy0 h hcb
    rw [hx] at haa
    rw [hy] at hbb hy0
    rw [hv, hO]
    have hpa := rabs_any p w (by omega) (by omega)
    have hqa := rabs_any q w (by omega) (by omega)
    rw [hx] at hpa
    rw [hy] at hqa
    have e6 : ∀ x y : Int, (decide (x < 0) == decide (y < 0)) = !(sgn x y) := fun x y => by simp [sgn, bne]
    have e7 : ∀ x y : Int, (x == y) = decide (x = y) := fun _ _ => rfl
    obtain ⟨n0, hn0⟩ : ∃ n0, x / y = n0 := ⟨_, rfl⟩
    obtain ⟨m0, hm0⟩ : ∃ m0, x % y = m0 := ⟨_, rfl⟩
    have hn1 : 0 ≤ n0 ∧ n0 ≤ x := by rw [← hn0]; exact ⟨Int.ediv_nonneg (by omega) (by omega), Int.ediv_le_self _ (by omega)⟩
    have hm1 : 0 ≤ m0 ∧ m0 < y := by rw [← hm0]; exact ⟨Int.emod_nonneg _ (by omega), Int.emod_lt_of_pos _ (by omega)⟩
    have t1 : x.tdiv y = n0 := by rw [Int.tdiv_eq_ediv_of_nonneg (by omega), hn0]
    have t2 : x.tmod y = m0 := by rw [Int.tmod_eq_emod_of_nonneg (by omega), hm0]
    have hyn : y ≠ 0 := by omega
    have hNr : 16777216 ≤ n0 → 281474976710656 ≤ r := by
      intro hf
      have h1 : (16777216 : Int) * y ≤ x := by
        have := Int.mul_ediv_self_le (x := x) (k := y) hyn
        rw [hn0] at this
        have h2 := Int.mul_le_mul_of_nonneg_right hf (show (0:Int) ≤ y by omega)
        rw [Int.mul_comm n0 y] at h2
        omega
      have h3 := Int.le_ediv_of_mul_le (show 0 < y by omega) (show 281474976710656 * y ≤ N by omega)
      have := HR.out
      omega
    by_cases hfar : 16777216 ≤ n0
    · have hr2 := hNr hfar
      have HR2 := Lib.hid hr2
      have hd : decide (16777216 ≤ n0) = true := by simpa using hfar
      clear hNr hr2 hn0 hm0 hv hc hE hO hr hpp hqq hx hy hN ho HR
      go_enter Try.func42, Try.ntmps42
      go_wp2_with (first | (go_at_call 73; first | ((with_reducible refine hca.mono ?_); rintro e w' ⟨rfl, rfl⟩) | ((with_reducible refine hcb.mono ?_); rintro e w' ⟨rfl, rfl⟩)) | (go_at_call 74; first | ((with_reducible refine hpa.mono ?_); rintro e w' ⟨rfl, rfl⟩) | ((with_reducible refine hqa.mono ?_); rintro e w' ⟨rfl, rfl⟩)))
      go_loopg [12, 13, 15] 0 (fun k nv mv iv wr => w = wr ∧ nv = .int .i64 n0 ∧ mv = .int .i64 m0 ∧ iv = .int .i64 0)
      case atStart => exact ⟨rfl, rfl, rfl, rfl⟩
      case round =>
        obtain ⟨rfl, rfl, rfl, rfl⟩ := hrel
        go_wp2_with (go_at_call 75; refine (rback_of r _ v _ _ c _ (by simp) (by simp) (by have := HR2.out; omega) (fun _ => by have := HR2.out; omega) HV.out HC.out).mono ?_; rintro e w' ⟨rfl, rfl⟩)
        all_goals go_ret2
        all_goals exact ⟨ret2 rfl (by simp [*]), rfl⟩
    · have hnf : n0 < 16777216 := by omega
      have hd : decide (16777216 ≤ n0) = false := by simpa using hfar
      have hst : DAt x y 0 n0 m0 := by rw [← hn0, ← hm0]; exact DAt.start (by omega) (by omega) (by rw [hn0]; exact hnf)
      have HN := Lib.hid hN
      have HST := Lib.hid hst
      clear hNr hn0 hm0 hv hc hE hO hr hpp hqq hx hy hN ho hfar hst
      go_enter Try.func42, Try.ntmps42
      go_wp2_with (first | (go_at_call 73; first | ((with_reducible refine hca.mono ?_); rintro e w' ⟨rfl, rfl⟩) | ((with_reducible refine hcb.mono ?_); rintro e w' ⟨rfl, rfl⟩)) | (go_at_call 74; first | ((with_reducible refine hpa.mono ?_); rintro e w' ⟨rfl, rfl⟩) | ((with_reducible refine hqa.mono ?_); rintro e w' ⟨rfl, rfl⟩)))
      go_loopg [12, 13, 15] 24 (fun k nv mv iv wr => w = wr ∧ ∃ (i : Nat) (Q m : Int), i ≤ 24 ∧ k = 24 - i ∧ nv = .int .i64 Q ∧ mv = .int .i64 m ∧ iv = .int .i64 i ∧ DAt x y i Q m)
      case atStart => exact ⟨rfl, 0, n0, m0, by omega, by omega, rfl, rfl, rfl, HST.out⟩
      case round =>
        obtain ⟨rfl, i, Q, m, hi, rfl, rfl, rfl, rfl, hD⟩ := hrel
        have HD := Lib.hid hD
        have hQb := hD.bd hi
        obtain ⟨-, hmm0, hmm1, hQ0, -⟩ := hD
        clear t1 t2 hn1 hm1 hnf
        by_cases hlt : i < 24
        · have hil : (i : Int) < 24 := by omega
          have hi0 : (0 : Int) ≤ i := by omega
          by_cases hge : y ≤ m * 2
          · go_wp2_with fail
            go_roundg (24 - (i + 1))
            case measure => omega
            case rel => exact ⟨rfl, i + 1, Q * 2 + 1, m * 2 - y, by omega, by omega, rfl, rfl, by go_num, HD.out.hi hge⟩
          · have hlo : m * 2 < y := by omega
            go_wp2_with fail
            go_roundg (24 - (i + 1))
            case measure => omega
            case rel => exact ⟨rfl, i + 1, Q * 2, m * 2, by omega, by omega, rfl, rfl, by go_num, HD.out.lo hlo⟩
        · obtain rfl : i = 24 := by omega
          obtain ⟨f1, f2⟩ := HD.out.fin
          have hNN := HN.out
          rw [hNN] at f1 f2
          have hR := HR.out
          rw [f1, f2] at hR
          have HRR := Lib.hid hR
          have tQ : Q.tmod 2 = Q % 2 := Int.tmod_eq_emod_of_nonneg hQ0
          have e8 : (m * 2 == y) = decide (2 * m = y) := by rw [Bool.eq_iff_iff]; simp; omega
          have e9 : (Q % 2 == 1) = decide (Q % 2 = 1) := rfl
          clear f1 f2 hNN hR hlt e7
          go_wp2_with (go_at_call 75; refine (rback_of r _ v _ _ c _ (fun _ => by have := HRR.out; omega) (fun _ => by have := HRR.out; omega) (by have := HRR.out; omega) (by simp) HV.out HC.out).mono ?_; rintro e w' ⟨rfl, rfl⟩)
          all_goals go_ret2
          all_goals exact ⟨ret2 rfl (by simp [*]), rfl⟩

set_option maxHeartbeats 1000000 in
theorem little_any (s a : Int) (w : World) (h0 : 0 ≤ s) (h1 : s < 34359738368) (ha0 : 0 ≤ a) (ha : a ≤ 70368744177664) :
    Calls Try.prog 94 #[.int .i64 s, .int .i64 a] w fun e w' => e = .returned (.bool (decide (s * s ≤ a * 16777216))) ∧ w = w' := by
  have hm := little_math (s := s) (a := a) rfl rfl rfl
  have bA := mul_bd (a := s / 262144) (b := s / 262144) (m := 131072) (n := 131072) (by omega) (by omega) (by omega) (by omega)
  have bT := mul_bd (a := 2 * (s / 262144)) (b := s % 262144) (m := 262144) (n := 262144) (by omega) (by omega) (by omega) (by omega)
  have bD := mul_bd (a := s % 262144) (b := s % 262144) (m := 262144) (n := 262144) (by omega) (by omega) (by omega) (by omega)
  obtain ⟨A, hA⟩ : ∃ A, s / 262144 * (s / 262144) = A := ⟨_, rfl⟩
  obtain ⟨T, hT⟩ : ∃ T, 2 * (s / 262144) * (s % 262144) = T := ⟨_, rfl⟩
  obtain ⟨D, hD⟩ : ∃ D, s % 262144 * (s % 262144) = D := ⟨_, rfl⟩
  rw [hA, hT, hD] at hm
  rw [hA] at bA
  rw [hT] at bT
  rw [hD] at bD
  rw [hm bT.1 bD.1]
  clear hm
  have e7 : ∀ x y : Int, (x == y) = decide (x = y) := fun _ _ => rfl
  obtain ⟨a1, a2⟩ := bA
  obtain ⟨t1, t2⟩ := bT
  obtain ⟨d1, d2⟩ := bD
  go_enter Try.func94, Try.ntmps94
  go_wp2_with fail
  all_goals go_ret
  all_goals exact ⟨retB (by simp [*]), rfl⟩

set_option maxHeartbeats 1000000 in
theorem rsqrt_any (a : Int) (w : World) :
    Calls Try.prog 43 #[.int .i64 a] w fun e w' => w = w' ∧ ((cl a < 0 ∧ e = .returned (.tuple #[.int .i64 0, .bool true])) ∨ (0 ≤ cl a ∧ ∃ r, e = .returned (.tuple #[.int .i64 r, .bool (clo a)]) ∧ IsRt (cl a * 16777216) r)) := by
  have hc := rclamp_any a w
  have hb := cl_bd a
  obtain ⟨p, hp⟩ : ∃ p, cl a = p := ⟨_, rfl⟩
  rw [hp] at hc hb ⊢
  clear hp
  by_cases hneg : p < 0
  · go_enter Try.func43, Try.ntmps43
    go_wp2_with (go_at_call 73; refine hc.mono ?_; rintro e w' ⟨rfl, rfl⟩)
    go_ret2
    exact ⟨rfl, Or.inl ⟨hneg, rfl⟩⟩
  · have hp0 : 0 ≤ p := by omega
    clear hneg
    go_enter Try.func43, Try.ntmps43
    go_wp2_with (go_at_call 73; refine hc.mono ?_; rintro e w' ⟨rfl, rfl⟩)
    clear hc
    go_loopg [6, 7] 34359738368 (fun k fv tv wr => w = wr ∧ ∃ f t : Int, fv = .int .i64 f ∧ tv = .int .i64 t ∧ 0 ≤ f ∧ f < t ∧ t ≤ 34359738368 ∧ (k : Int) = t - f ∧ Hid (f * f ≤ p * 16777216 ∧ p * 16777216 < t * t))
    case atStart => exact ⟨rfl, 0, 34359738368, rfl, rfl, by omega, by omega, by omega, by omega, (show _ ∧ _ from ⟨by omega, by omega⟩)⟩
    case round =>
      obtain ⟨rfl, f, t, rfl, rfl, hf0, hft, ht, hk, hI⟩ := hrel
      by_cases hgt : t - f ≤ 1
      · go_wp2_with fail
        go_ret2
        have hte : t = f + 1 := by omega
        have := hI.out
        rw [hte] at this
        exact ⟨rfl, Or.inr ⟨hp0, f, rfl, hf0, this.1, this.2⟩⟩
      · have hg1 : 1 < t - f := by omega
        have hm1 : f < (f + t) / 2 := by omega
        have hm2 : (f + t) / 2 < t := by omega
        have htd : (f + t).tdiv 2 = (f + t) / 2 := Int.tdiv_eq_ediv_of_nonneg (by omega)
        obtain ⟨M, hM⟩ : ∃ M, (f + t) / 2 = M := ⟨_, rfl⟩
        rw [hM] at hm1 hm2
        have hl := little_any M p w (by omega) (by omega) (by omega) (by omega)
        by_cases hle : M * M ≤ p * 16777216
        · rw [decide_eq_true hle] at hl
          have HL := Lib.hid hle
          clear hle
          go_wp2_with (go_at_call 94; refine hl.mono ?_; rintro e w' ⟨rfl, rfl⟩)
          go_roundg ((t - M).toNat)
          case measure => omega
          case rel => exact ⟨rfl, M, t, rfl, rfl, by omega, by omega, by omega, by omega, (show _ ∧ _ from ⟨HL.out, hI.out.2⟩)⟩
        · rw [decide_eq_false hle] at hl
          have HL : Hid (p * 16777216 < M * M) := by show _ < _; omega
          clear hle
          go_wp2_with (go_at_call 94; refine hl.mono ?_; rintro e w' ⟨rfl, rfl⟩)
          go_roundg ((M - f).toNat)
          case measure => omega
          case rel => exact ⟨rfl, f, M, rfl, rfl, by omega, by omega, by omega, by omega, (show _ ∧ _ from ⟨hI.out.1, HL.out⟩)⟩

end Go.Proofs.Ytijohedhbbddjaa
