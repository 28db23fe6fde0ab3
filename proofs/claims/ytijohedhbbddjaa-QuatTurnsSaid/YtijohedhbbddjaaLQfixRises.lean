/- The walk of the law QfixRises. -/
import Derived.Test.YtijohedhbbddjaaQ4
import Derived.Test.YtijohedhbbddjaaQ6
namespace Go.Proofs.Ytijohedhbbddjaa
open Go.RowKit

set_option maxRecDepth 100000 in
set_option maxHeartbeats 1000000 in
theorem shown1_any (w : World) : Calls Try.prog 23 #[] w fun e w' => e = .returned (.bool true) ∧ Below w.heap.size w w' := by
  have m1 : mulQ 25165824 25165824 = 37748736 := by decide +kernel
  have m2 : mulO 25165824 25165824 = false := by decide +kernel
  have d1 : divQ 16777216 50331648 = 5592405 := by decide +kernel
  have d2 : divO 16777216 50331648 = false := by decide +kernel
  have h5 : half1 5 = 2 := by decide +kernel
  have h7 : half1 7 = 4 := by decide +kernel
  have hm := mul_any 25165824 25165824
  have hd := div_any 16777216 50331648
  have hh5 := fun w => half1_any 5 w (by omega) (by omega)
  have hh7 := fun w => half1_any 7 w (by omega) (by omega)
  rw [m1, m2] at hm
  rw [d1, d2] at hd
  rw [h5] at hh5
  rw [h7] at hh7
  have HM := Lib.hid hm
  have HD := Lib.hid hd
  have H5 := Lib.hid hh5
  have H7 := Lib.hid hh7
  clear hm hd hh5 hh7 m1 m2 d1 d2 h5 h7
  go_enter Try.func23, Try.ntmps23
  go_wp2_with (first | (go_at_call 25; refine (HM.out _).mono ?_; rintro e w1 ⟨rfl, hb1⟩) | (go_at_call 41; refine (HD.out _).mono ?_; rintro e w2 ⟨rfl, hb2⟩) | (go_at_call 80; first | ((with_reducible refine (H5.out _).mono ?_); rintro e w' ⟨rfl, rfl⟩) | ((with_reducible refine (H7.out _).mono ?_); rintro e w' ⟨rfl, rfl⟩)))
  go_ret
  exact ⟨rfl, below_trans2 hb1 hb2⟩

theorem rnd_mono {N M : Int} (h : N ≤ M) : rnd N 16777216 ≤ rnd M 16777216 := by unfold rnd; split <;> split <;> omega
theorem cl_mono {a b : Int} (h : a ≤ b) : cl a ≤ cl b := by unfold cl; (repeat' split) <;> omega
theorem addQ_mono {a b : Int} (c : Int) (h : a ≤ b) : addQ a c ≤ addQ b c := cl_mono (by have := cl_mono h; omega)
theorem half24_mono {a b : Int} (h : a ≤ b) : half24 (cl a) ≤ half24 (cl b) := rnd_mono (cl_mono h)
theorem rnd_nonneg {N : Int} (h : 0 ≤ N) : 0 ≤ rnd N 16777216 := by unfold rnd; split <;> omega
theorem mulQ_mono {a b c : Int} (h : a ≤ b) (hc : 0 ≤ c) : mulQ a c ≤ mulQ b c := by
  refine cl_mono ?_
  have hp := cl_mono h
  have hC : 0 ≤ cl c := by unfold cl; (repeat' split) <;> omega
  unfold mulE
  generalize cl a = p at *
  generalize cl b = q at *
  generalize cl c = C at *
  have hs : ∀ x : Int, neg (sgn x C) (rnd (ab x * ab C) 16777216) = if x < 0 then - rnd (-x * C) 16777216 else rnd (x * C) 16777216 := by
    intro x
    have h1 : decide (C < 0) = false := by simp; omega
    unfold neg sgn ab
    rw [h1, if_neg (show ¬ C < 0 by omega)]
    by_cases hx : x < 0 <;> simp [hx]
  rw [hs, hs]
  by_cases h1 : p < 0
  · by_cases h2 : q < 0
    · rw [if_pos h1, if_pos h2]
      have := rnd_mono (Int.mul_le_mul_of_nonneg_right (show -q ≤ -p by omega) hC)
      omega
    · rw [if_pos h1, if_neg h2]
      have := rnd_nonneg (Int.mul_nonneg (show 0 ≤ -p by omega) hC)
      have := rnd_nonneg (Int.mul_nonneg (show 0 ≤ q by omega) hC)
      omega
  · rw [if_neg h1, if_neg (by omega)]
    exact rnd_mono (Int.mul_le_mul_of_nonneg_right hp hC)
theorem rt_mono {N M r s : Int} (h : N ≤ M) (hr : IsRt N r) (hs : IsRt M s) : r ≤ s := by
  obtain ⟨r0, r1, r2⟩ := hr
  obtain ⟨s0, s1, s2⟩ := hs
  rcases (by omega : r ≤ s ∨ s + 1 ≤ r) with h' | h'
  · exact h'
  · have := Int.mul_le_mul h' h' (by omega) (by omega)
    omega

/-- What Sqrt answers. -/
def RtOf (a s : Int) : Prop := (cl a < 0 ∧ s = 0) ∨ (0 ≤ cl a ∧ IsRt (cl a * 16777216) s)
theorem rtOf_mono {a b s t : Int} (h : a ≤ b) (hs : RtOf a s) (ht : RtOf b t) : s ≤ t := by
  have hc := cl_mono h
  rcases hs with ⟨h1, rfl⟩ | ⟨h1, hs⟩
  · rcases ht with ⟨_, rfl⟩ | ⟨_, ht⟩
    · omega
    · exact ht.1
  · rcases ht with ⟨h2, -⟩ | ⟨_, ht⟩
    · omega
    · exact rt_mono (by omega) hs ht
theorem sqrt_rt (a : Int) (w : World) : Calls Try.prog 26 #[.int .i64 a] w fun e w' => ∃ s o, e = .returned (.tuple #[.int .i64 s, .bool o]) ∧ RtOf a s ∧ w = w' :=
  (sqrt_any a w).mono fun e w' ⟨hw, h⟩ => by
    rcases h with ⟨h1, he⟩ | ⟨h1, r, he, hr⟩
    · exact ⟨0, true, he, Or.inl ⟨h1, rfl⟩, hw⟩
    · exact ⟨r, _, he, Or.inr ⟨h1, hr⟩, hw⟩

set_option maxRecDepth 100000 in
set_option maxHeartbeats 1000000 in
theorem qfixRises_any (w : World) (a b c : Int) :
    Calls Try.prog 5 #[.int .i64 a, .int .i64 b, .int .i64 c] w fun e w' => e = .returned (.bool true) ∧ Below w.heap.size w w' := by
  by_cases hab : b < a
  · go_enter Try.func5, Try.ntmps5
    go_wp2_with (first | (go_at_call 23; refine (shown1_any _).mono ?_; rintro e w1 ⟨rfl, hb1⟩))
    go_ret
    exact ⟨rfl, by assumption⟩
  · have hab' : a ≤ b := by omega
    have g1 := addQ_mono c hab'
    have g2 : 0 ≤ c → mulQ a c ≤ mulQ b c := fun h => mulQ_mono hab' h
    have g3 := half24_mono hab'
    have HAB := Lib.hid hab'
    have SA := Lib.hid (sqrt_rt a)
    have SB := Lib.hid (sqrt_rt b)
    have MA := Lib.hid (fun w => mul_any a c w)
    have MB := Lib.hid (fun w => mul_any b c w)
    by_cases hc : c < 0
    · clear g2
      go_enter Try.func5, Try.ntmps5
      go_wp2_with (first | (go_at_call 23; refine (shown1_any _).mono ?_; rintro e w1 ⟨rfl, hb1⟩) | (go_at_call 24; refine (add_any _ _ _).mono ?_; rintro e w' ⟨rfl, rfl⟩) | (go_at_call 27; refine (round_any _ _).mono ?_; rintro e w' ⟨rfl, rfl⟩) | (go_at_call 25; first | ((with_reducible refine (MA.out _).mono ?_); rintro e w2 ⟨rfl, hb2⟩; have hb12 := below_trans2 hb1 hb2) | ((with_reducible refine (MB.out _).mono ?_); rintro e w3 ⟨rfl, hb3⟩; have hb13 := below_trans2 hb12 hb3)) | (go_at_call 26; first | ((with_reducible refine (SA.out _).mono ?_); rintro e w' ⟨s, o, rfl, hs, rfl⟩; have hs := Lib.hid hs) | ((with_reducible refine (SB.out _).mono ?_); rintro e w' ⟨t, o', rfl, ht, rfl⟩; have hst := rtOf_mono HAB.out hs.out ht; have ht := Lib.hid ht)))
      go_ret
      exact ⟨rfl, hb13⟩
    · have g2 := g2 (by omega)
      go_enter Try.func5, Try.ntmps5
      go_wp2_with (first | (go_at_call 23; refine (shown1_any _).mono ?_; rintro e w1 ⟨rfl, hb1⟩) | (go_at_call 24; refine (add_any _ _ _).mono ?_; rintro e w' ⟨rfl, rfl⟩) | (go_at_call 27; refine (round_any _ _).mono ?_; rintro e w' ⟨rfl, rfl⟩) | (go_at_call 25; first | ((with_reducible refine (MA.out _).mono ?_); rintro e w2 ⟨rfl, hb2⟩; have hb12 := below_trans2 hb1 hb2) | ((with_reducible refine (MB.out _).mono ?_); rintro e w3 ⟨rfl, hb3⟩; have hb13 := below_trans2 hb12 hb3)) | (go_at_call 26; first | ((with_reducible refine (SA.out _).mono ?_); rintro e w' ⟨s, o, rfl, hs, rfl⟩; have hs := Lib.hid hs) | ((with_reducible refine (SB.out _).mono ?_); rintro e w' ⟨t, o', rfl, ht, rfl⟩; have hst := rtOf_mono HAB.out hs.out ht; have ht := Lib.hid ht)))
      go_ret
      exact ⟨rfl, hb13⟩

end Go.Proofs.Ytijohedhbbddjaa
