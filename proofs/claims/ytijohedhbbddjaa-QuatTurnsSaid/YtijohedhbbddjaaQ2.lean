/- The walks of the reference of layer 1 (alidaderef01): sums, differences, products, halves. -/
import Derived.Test.YtijohedhbbddjaaQ1
namespace Go.Proofs.Ytijohedhbbddjaa
open Go.RowKit

set_option maxHeartbeats 400000 in
theorem rclamp_any (a : Int) (w : World) :
    Calls Try.prog 73 #[.int .i64 a] w fun e w' => e = .returned (.tuple #[.int .i64 (cl a), .bool (clo a)]) ∧ w = w' := by
  go_enter Try.func73, Try.ntmps73
  go_wp2
  all_goals
    go_ret2
    refine ⟨ret2 ?_ ?_, rfl⟩
    · unfold cl; (repeat' split) <;> (repeat' split at *) <;> omega
    · unfold clo; rw [Bool.eq_iff_iff]; simp <;> omega

set_option maxHeartbeats 400000 in
theorem rin_any (a : Int) (w : World) :
    Calls Try.prog 68 #[.int .i64 a] w fun e w' => e = .returned (.bool (!clo a)) ∧ w = w' := by
  go_enter Try.func68, Try.ntmps68
  go_wp2
  all_goals
    go_ret
    refine ⟨?_, rfl⟩
    show Ending.returned (.bool _) = .returned (.bool _)
    congr 2
    rw [Bool.eq_iff_iff]; simp [clo] <;> omega

set_option maxHeartbeats 400000 in
theorem rabs_any (a : Int) (w : World) (h1 : -9223372036854775808 < a) (h2 : a < 9223372036854775808) :
    Calls Try.prog 74 #[.int .i64 a] w fun e w' => e = .returned (.int .i64 (ab a)) ∧ w = w' := by
  go_enter Try.func74, Try.ntmps74
  go_wp2
  · go_ret
    exact ⟨retI (by unfold ab; simp; omega), rfl⟩
  · go_ret
    exact ⟨retI (by unfold ab; simp; omega), rfl⟩

set_option maxHeartbeats 400000 in
theorem radd_any (a b : Int) (w : World) :
    Calls Try.prog 38 #[.int .i64 a, .int .i64 b] w fun e w' => e = .returned (.tuple #[.int .i64 (addQ a b), .bool (addO a b)]) ∧ w = w' := by
  have := cl_bd a
  have := cl_bd b
  go_enter Try.func38, Try.ntmps38
  go_wp2_with (first | (go_at_call 73; refine (rclamp_any _ _).mono ?_; rintro e w' ⟨rfl, rfl⟩))
  all_goals
    go_ret2
    exact ⟨ret2 rfl (by simp [addO, *]), rfl⟩

set_option maxHeartbeats 400000 in
theorem rsub_any (a b : Int) (w : World) :
    Calls Try.prog 40 #[.int .i64 a, .int .i64 b] w fun e w' => e = .returned (.tuple #[.int .i64 (subQ a b), .bool (subO a b)]) ∧ w = w' := by
  have := cl_bd a
  have := cl_bd b
  go_enter Try.func40, Try.ntmps40
  go_wp2_with (first | (go_at_call 73; refine (rclamp_any _ _).mono ?_; rintro e w' ⟨rfl, rfl⟩))
  all_goals
    go_ret2
    exact ⟨ret2 rfl (by simp [subO, *]), rfl⟩

/-- back: a size n (f: it is too great to tell), turned by b. -/
theorem back_math {n v : Int} {f b c : Bool} (hn : 0 ≤ n) (hf : f = true → 70368744177664 < n) (hv : cl (neg b n) = v) (hc : clo (neg b n) = c) :
    (b = true → (f = true ∨ 70368744177664 < n) → v = -70368744177664 ∧ c = true) ∧ (b = true → f = false → n ≤ 70368744177664 → v = -n ∧ c = false) ∧
    (b = false → (f = true ∨ 70368744177663 < n) → v = 70368744177663 ∧ c = true) ∧ (b = false → f = false → n ≤ 70368744177663 → v = n ∧ c = false) := by
  subst hv; subst hc
  refine ⟨?_, ?_, ?_, ?_⟩
  · rintro rfl h
    have h' : 70368744177664 < n := by rcases h with h | h; exact hf h; exact h
    simp only [neg, cl, clo, if_true]
    refine ⟨by rw [if_neg (by omega), if_pos (by omega)], by simp; omega⟩
  · rintro rfl - h
    simp only [neg, cl, clo, if_true]
    refine ⟨by rw [if_neg (by omega), if_neg (by omega)], by simp; omega⟩
  · rintro rfl h
    have h' : 70368744177663 < n := by rcases h with h | h; have := hf h; omega; exact h
    simp only [neg, cl, clo, Bool.false_eq_true, if_false]
    refine ⟨by rw [if_pos (by omega)], by simp; omega⟩
  · rintro rfl - h
    simp only [neg, cl, clo, Bool.false_eq_true, if_false]
    refine ⟨by rw [if_neg (by omega), if_neg (by omega)], by simp; omega⟩

set_option maxHeartbeats 400000 in
theorem rback_of (n m v : Int) (f b c : Bool) (w : World) (hm : f = false → m = n) (hb : f = false → n < 9223372036854775808) (hn : 0 ≤ n) (hf : f = true → 70368744177664 < n) (hv : cl (neg b n) = v) (hc : clo (neg b n) = c) :
    Calls Try.prog 75 #[.int .i64 m, .bool f, .bool b] w fun e w' => e = .returned (.tuple #[.int .i64 v, .bool c]) ∧ w = w' := by
  obtain ⟨g1, g2, g3, g4⟩ := back_math hn hf hv hc
  clear hv hc
  have G1 := Lib.hid g1
  have G2 := Lib.hid g2
  have G3 := Lib.hid g3
  have G4 := Lib.hid g4
  have HM := Lib.hid hm
  have HF := Lib.hid hf
  clear g1 g2 g3 g4 hf hm
  cases f with
  | true =>
    clear hb
    cases b
    all_goals
      go_enter Try.func75, Try.ntmps75
      go_wp2
      go_ret2
    · exact ⟨by rw [(G3.out (by simp) (Or.inl (by simp))).1, (G3.out (by simp) (Or.inl (by simp))).2]; rfl, rfl⟩
    · exact ⟨by rw [(G1.out (by simp) (Or.inl (by simp))).1, (G1.out (by simp) (Or.inl (by simp))).2]; rfl, rfl⟩
  | false =>
    obtain rfl := HM.out rfl
    clear HM
    have hb := hb rfl
    cases b with
    | true =>
      go_enter Try.func75, Try.ntmps75
      go_wp2
      · go_ret2
        have h : 70368744177664 < m := by assumption
        exact ⟨by rw [(G1.out (by simp) (Or.inr h)).1, (G1.out (by simp) (Or.inr h)).2]; rfl, rfl⟩
      · go_ret2
        have h : m ≤ 70368744177664 := by omega
        exact ⟨by rw [(G2.out (by simp) (by simp) h).1, (G2.out (by simp) (by simp) h).2]; rfl, rfl⟩
    | false =>
      go_enter Try.func75, Try.ntmps75
      go_wp2
      · go_ret2
        have h : 70368744177663 < m := by assumption
        exact ⟨by rw [(G3.out (by simp) (Or.inr h)).1, (G3.out (by simp) (Or.inr h)).2]; rfl, rfl⟩
      · go_ret2
        have h : m ≤ 70368744177663 := by omega
        exact ⟨by rw [(G4.out (by simp) (by simp) h).1, (G4.out (by simp) (by simp) h).2]; rfl, rfl⟩

end Go.Proofs.Ytijohedhbbddjaa
