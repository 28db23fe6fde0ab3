/- Texts of this claim, part 3: contracts of the functions that the law reaches. -/
import Derived.Test.YtijohedhbbddjaaZ0
import Derived.Test.YtijohedhbbddjaaZ1
namespace Go.Proofs.Ytijohedhbbddjaa
open Go.RowKit


set_option maxHeartbeats 400000 in
theorem clamp_any (a : Int) (w : World) :
    Calls Try.prog 82 #[.int .i64 a] w fun e w' => e = .returned (.tuple #[.int .i64 (cl a), .bool (clo a)]) ∧ w = w' := by
  go_enter Try.func82, Try.ntmps82
  go_wp2
  all_goals
    go_ret2
    refine ⟨ret2 ?_ ?_, rfl⟩
    · unfold cl; (repeat' split) <;> (repeat' split at *) <;> omega
    · unfold clo; rw [Bool.eq_iff_iff]; simp [bne] <;> (repeat' split at *) <;> omega

set_option maxHeartbeats 400000 in
theorem both_any (a b : Int) (w : World) :
    Calls Try.prog 81 #[.int .i64 a, .int .i64 b] w fun e w' => e = .returned (.tuple #[.int .i64 (cl a), .int .i64 (cl b), .bool (clo a || clo b)]) ∧ w = w' := by
  rcases Bool.eq_false_or_eq_true (clo a) with h | h
  all_goals
    go_enter Try.func81, Try.ntmps81
    go_wp2_with (go_at_call 82; refine (clamp_any _ _).mono ?_; rintro e w' ⟨rfl, rfl⟩)
    go_ret3
    exact ⟨ret3 rfl rfl (by simp [*]), rfl⟩

theorem both_of (a b : Int) (o : Bool) (ho : (clo a || clo b) = o) (w : World) :
    Calls Try.prog 81 #[.int .i64 a, .int .i64 b] w fun e w' => e = .returned (.tuple #[.int .i64 (cl a), .int .i64 (cl b), .bool o]) ∧ w = w' := by
  subst ho; exact both_any a b w

set_option maxHeartbeats 400000 in
theorem add_any (a b : Int) (w : World) :
    Calls Try.prog 24 #[.int .i64 a, .int .i64 b] w fun e w' => e = .returned (.tuple #[.int .i64 (addQ a b), .bool (addO a b)]) ∧ w = w' := by
  have := cl_bd a
  have := cl_bd b
  obtain ⟨o, ho⟩ : ∃ o, (clo a || clo b) = o := ⟨_, rfl⟩
  have H := Lib.hid ho
  cases o
  all_goals
    clear ho
    go_enter Try.func24, Try.ntmps24
    go_wp2_with (first | (go_at_call 81; refine (both_of _ _ _ H.out _).mono ?_; rintro e w' ⟨rfl, rfl⟩) | (go_at_call 82; refine (clamp_any _ _).mono ?_; rintro e w' ⟨rfl, rfl⟩))
    go_ret2
    exact ⟨ret2 rfl (by simp [addO, H.out]), rfl⟩

set_option maxHeartbeats 400000 in
theorem sub_any (a b : Int) (w : World) :
    Calls Try.prog 39 #[.int .i64 a, .int .i64 b] w fun e w' => e = .returned (.tuple #[.int .i64 (subQ a b), .bool (subO a b)]) ∧ w = w' := by
  have := cl_bd a
  have := cl_bd b
  obtain ⟨o, ho⟩ : ∃ o, (clo a || clo b) = o := ⟨_, rfl⟩
  have H := Lib.hid ho
  cases o
  all_goals
    clear ho
    go_enter Try.func39, Try.ntmps39
    go_wp2_with (first | (go_at_call 81; refine (both_of _ _ _ H.out _).mono ?_; rintro e w' ⟨rfl, rfl⟩) | (go_at_call 82; refine (clamp_any _ _).mono ?_; rintro e w' ⟨rfl, rfl⟩))
    go_ret2
    exact ⟨ret2 rfl (by simp [subO, H.out]), rfl⟩

set_option maxHeartbeats 400000 in
theorem size_any (a : Int) (w : World) (h1 : -9223372036854775808 < a) (h2 : a < 9223372036854775808) :
    Calls Try.prog 84 #[.int .i64 a] w fun e w' => e = .returned (.int .u64 (ab a)) ∧ w = w' := by
  go_enter Try.func84, Try.ntmps84
  go_wp2
  · go_ret
    exact ⟨retI (by unfold ab; simp; omega), rfl⟩
  · go_ret
    exact ⟨retI (by unfold ab; simp; omega), rfl⟩

set_option maxHeartbeats 400000 in
theorem mul64_any (x y : Int) (w : World) (hx0 : 0 ≤ x) (hx : x < 18446744073709551616) (hy0 : 0 ≤ y) (hy : y < 18446744073709551616) :
    Calls Try.prog 83 #[.int .u64 x, .int .u64 y] w fun e w' => e = .returned (.tuple #[.int .u64 (x * y / 18446744073709551616), .int .u64 (x * y % 18446744073709551616)]) ∧ w = w' := by
  go_enter Try.func83, Try.ntmps83
  go_wp2
  go_ret2
  refine ⟨?_, rfl⟩
  have e1 := mul64_arith x y hx0 hx hy0 hy
  rw [← and_low32 x hx0 hx, ← and_low32 y hy0 hy] at e1
  have e2 : ∀ z : Int, bits .and .u64 (z % 18446744073709551616) 4294967295 = (z % 18446744073709551616) % 4294967296 := fun z => and_low32 _ (by omega) (by omega)
  rw [← e2] at e1
  show Ending.returned (.tuple #[.int .u64 _, .int .u64 _]) = _
  simp only [IntKind.wrap_u64, e1]

set_option maxHeartbeats 400000 in
theorem turn_any (a : Int) (p : Addr) (b : Bool) (w : World) (ha : -9223372036854775808 < a ∧ a < 9223372036854775808) (hp : w.cell? p = some (.bool b)) :
    Calls Try.prog 114 #[.int .i64 a, .pointer (some p)] w fun e w' => e = .returned (.int .i64 (neg b a)) ∧ w = w' := by
  go_enter Try.func114, Try.ntmps114
  cases b <;> go_wp2
  all_goals
    go_ret
    exact ⟨retI (by simp [neg]), rfl⟩


/- What signed is handed: a size in two words, and a sign. -/
set_option maxHeartbeats 400000 in
theorem signed_any (h l : Int) (b : Bool) (w : World) (hh : 0 ≤ h ∧ h < 18446744073709551616) (hl : 0 ≤ l ∧ l < 18446744073709551616) :
    Calls Try.prog 85 #[.int .u64 h, .int .u64 l, .bool b] w fun e w' =>
      e = .returned (.tuple #[.int .i64 (cl (neg b (h * 18446744073709551616 + l))), .bool (clo (neg b (h * 18446744073709551616 + l)))]) ∧ Below w.heap.size w w' := by
  obtain ⟨h1, h2⟩ := hh
  obtain ⟨l1, l2⟩ := hl
  go_enter Try.func85, Try.ntmps85
  go_wp2_with (first | (go_at_call 114; refine (turn_any _ _ b _ (by omega) (by simp)).mono ?_; rintro e w' ⟨rfl, rfl⟩) | (go_at_call 82; refine (clamp_any _ _).mono ?_; rintro e w' ⟨rfl, rfl⟩))
  all_goals
    go_ret2
    refine ⟨ret2 ?_ ?_, below1 _ _⟩
    · cases b <;> simp only [cl, neg] <;> (repeat' split) <;> first | omega | simp_all
    · rw [Bool.eq_iff_iff]; cases b <;> simp [clo, neg] <;> omega

theorem mul_pq (a b : Int) : 0 ≤ ab (cl a) * ab (cl b) ∧ ab (cl a) * ab (cl b) ≤ 4951760157141521099596496896 := by
  have h1 := ab_bd a
  have h2 := ab_bd b
  refine ⟨Int.mul_nonneg h1.1 h2.1, ?_⟩
  have := Int.mul_le_mul h1.2 h2.2 h2.1 (by omega : (0 : Int) ≤ 70368744177664)
  simpa using this

theorem signed_of (h l n v : Int) (c : Bool) (b : Bool) (w : World) (hh : 0 ≤ h ∧ h < 18446744073709551616) (hl : 0 ≤ l ∧ l < 18446744073709551616) (hn : h * 18446744073709551616 + l = n)
    (hv : cl (neg b n) = v) (hc : clo (neg b n) = c) :
    Calls Try.prog 85 #[.int .u64 h, .int .u64 l, .bool b] w fun e w' => e = .returned (.tuple #[.int .i64 v, .bool c]) ∧ Below w.heap.size w w' := by
  subst hn; subst hv; subst hc; exact signed_any h l b w hh hl

theorem and24 (z : Int) (h0 : 0 ≤ z) (h1 : z < 18446744073709551616) : bits .and .u64 z 16777215 = z % 16777216 := by go_bits2
theorem and1u (z : Int) (h0 : 0 ≤ z) (h1 : z < 18446744073709551616) : bits .and .u64 z 1 = z % 2 := by go_bits2
theorem or40 (x y : Int) (hx0 : 0 ≤ x) (hx : x < 1099511627776) (hy0 : 0 ≤ y) (hy : y < 18446744073709551616) (hm : y % 1099511627776 = 0) : bits .or .u64 x y = x + y := by
  obtain ⟨X, rfl⟩ := Int.eq_ofNat_of_zero_le hx0
  obtain ⟨Y, rfl⟩ := Int.eq_ofNat_of_zero_le hy0
  have hy' : Y = Y / 1099511627776 * 2 ^ 40 := by omega
  have e := bits_or_u64_nat X Y (by omega) (by omega)
  rw [e, hy', ← Nat.shiftLeft_eq, Nat.or_comm, ← Nat.shiftLeft_add_eq_or_of_lt (by omega : X < 2 ^ 40)]
  omega

theorem rnd_fact {N r : Int} (h : rnd N 16777216 = r) : ((16777216 < 2 * (N % 16777216) ∨ (2 * (N % 16777216) = 16777216 ∧ N / 16777216 % 2 = 1)) ∧ r = N / 16777216 + 1) ∨ ((¬ (16777216 < 2 * (N % 16777216) ∨ (2 * (N % 16777216) = 16777216 ∧ N / 16777216 % 2 = 1))) ∧ r = N / 16777216) := by
  subst h; unfold rnd; split
  · exact Or.inl ⟨‹_›, rfl⟩
  · exact Or.inr ⟨‹_›, rfl⟩

theorem sgn_cases (a b : Int) : (decide (a < 0) != decide (b < 0)) = sgn a b := rfl

set_option maxHeartbeats 1000000 in
theorem mul_any (a b : Int) (w : World) :
    Calls Try.prog 25 #[.int .i64 a, .int .i64 b] w fun e w' => e = .returned (.tuple #[.int .i64 (mulQ a b), .bool (mulO a b)]) ∧ Below w.heap.size w w' := by
  have ha := cl_bd a
  have hb := cl_bd b
  have haa := ab_bd a
  have hbb := ab_bd b
  have hp := mul_pq a b
  obtain ⟨p, hpp⟩ : ∃ p, cl a = p := ⟨_, rfl⟩
  obtain ⟨q, hqq⟩ : ∃ q, cl b = q := ⟨_, rfl⟩
  obtain ⟨N, hN⟩ : ∃ N, ab (cl a) * ab (cl b) = N := ⟨_, rfl⟩
  obtain ⟨r, hr⟩ : ∃ r, rnd N 16777216 = r := ⟨_, rfl⟩
  obtain ⟨v, hv⟩ : ∃ v, mulQ a b = v := ⟨_, rfl⟩
  obtain ⟨c, hc⟩ : ∃ c, clo (mulE a b) = c := ⟨_, rfl⟩
  obtain ⟨o, ho⟩ : ∃ o, (clo a || clo b) = o := ⟨_, rfl⟩
  have hv' : cl (neg (sgn p q) r) = v := by rw [← hv, ← hr, ← hN, ← hpp, ← hqq]; rfl
  have hc' : clo (neg (sgn p q) r) = c := by rw [← hc, ← hr, ← hN, ← hpp, ← hqq]; rfl
  have hO : mulO a b = (o || c) := by rw [← hc, ← ho]; rfl
  have HV := Lib.hid hv'
  have HC := Lib.hid hc'
  have HR := Lib.hid (rnd_fact hr)
  have HB : Hid (both_of a b o ho w = both_of a b o ho w) := rfl
  have hboth := both_of a b o ho w
  rw [hN] at hp
  rw [hpp, hqq] at hboth hN
  rw [hpp] at ha haa
  rw [hqq] at hb hbb
  have HN := Lib.hid hN
  rw [hv, hO]
  clear hv hc ho hv' hc' hr hN hpp hqq hO HB
  have e1 : bits .and .u64 (N % 18446744073709551616) 16777215 = N % 16777216 := by rw [and24 _ (by omega) (by omega)]; omega
  have e2 : bits .or .u64 (N % 18446744073709551616 / 16777216) (IntKind.u64.wrap (N / 18446744073709551616 * 1099511627776)) = N / 16777216 % 18446744073709551616 := by
    rw [IntKind.wrap_u64, or40 _ _ (by omega) (by omega) (by omega) (by omega) (by omega)]; omega
  have e4 : bits .and .u64 (N / 16777216 % 18446744073709551616) 1 = N / 16777216 % 2 := by rw [and1u _ (by omega) (by omega)]; omega
  have e5 : IntKind.u64.wrap (N / 16777216 % 18446744073709551616 + 1) = (N / 16777216 + 1) % 18446744073709551616 := by rw [IntKind.wrap_u64]; omega
  have e6 : ∀ x y : Int, (decide (x < 0) == decide (y < 0)) = !(sgn x y) := fun x y => by simp [sgn, bne]
  have e7 : ∀ x y : Int, (x == y) = decide (x = y) := fun _ _ => rfl
  go_enter Try.func25, Try.ntmps25
  go_wp2_with (first | (go_at_call 81; refine hboth.mono ?_; rintro e w' ⟨rfl, rfl⟩) | (go_at_call 84; refine (size_any _ _ (by omega) (by omega)).mono ?_; rintro e w' ⟨rfl, rfl⟩) | (go_at_call 83; refine (mul64_any _ _ _ (by omega) (by omega) (by omega) (by omega)).mono ?_; rw [HN.out]; rintro e w' ⟨rfl, rfl⟩) | (go_at_call 85; refine (signed_of _ _ r v c _ _ ⟨by omega, by omega⟩ ⟨by omega, by omega⟩ (by have := HR.out; omega) HV.out HC.out).mono ?_; rintro e w' ⟨rfl, hb⟩))
  all_goals go_ret2
  all_goals exact ⟨ret2 rfl (by simp [*]), ‹_›⟩

end Go.Proofs.Ytijohedhbbddjaa

namespace Go.Proofs.Ytijohedhbbddjaa
open Go.RowKit

set_option maxHeartbeats 400000 in
theorem rclamp_any (a : Int) (w : World) :
    Calls Try.prog 73 #[.int .i64 a] w fun e w' => e = .returned (.tuple #[.int .i64 (cl a), .bool (clo a)]) ∧ w = w' := by
  go_enter Try.func73, Try.ntmps73
  go_wp2
  all_goals
    go_ret2
    refine ⟨ret2 ?_ ?_, rfl⟩
    · unfold cl; (repeat' split) <;> (repeat' split at *) <;> omega
    · unfold clo; rw [Bool.eq_iff_iff]; simp <;> omega

set_option maxHeartbeats 400000 in
theorem rin_any (a : Int) (w : World) :
    Calls Try.prog 68 #[.int .i64 a] w fun e w' => e = .returned (.bool (!clo a)) ∧ w = w' := by
  go_enter Try.func68, Try.ntmps68
  go_wp2
  all_goals
    go_ret
    refine ⟨?_, rfl⟩
    show Ending.returned (.bool _) = .returned (.bool _)
    congr 2
    rw [Bool.eq_iff_iff]; simp [clo] <;> omega

set_option maxHeartbeats 400000 in
theorem rabs_any (a : Int) (w : World) (h1 : -9223372036854775808 < a) (h2 : a < 9223372036854775808) :
    Calls Try.prog 74 #[.int .i64 a] w fun e w' => e = .returned (.int .i64 (ab a)) ∧ w = w' := by
  go_enter Try.func74, Try.ntmps74
  go_wp2
  · go_ret
    exact ⟨retI (by unfold ab; simp; omega), rfl⟩
  · go_ret
    exact ⟨retI (by unfold ab; simp; omega), rfl⟩

set_option maxHeartbeats 400000 in
theorem radd_any (a b : Int) (w : World) :
    Calls Try.prog 38 #[.int .i64 a, .int .i64 b] w fun e w' => e = .returned (.tuple #[.int .i64 (addQ a b), .bool (addO a b)]) ∧ w = w' := by
  have := cl_bd a
  have := cl_bd b
  go_enter Try.func38, Try.ntmps38
  go_wp2_with (first | (go_at_call 73; refine (rclamp_any _ _).mono ?_; rintro e w' ⟨rfl, rfl⟩))
  all_goals
    go_ret2
    exact ⟨ret2 rfl (by simp [addO, *]), rfl⟩

set_option maxHeartbeats 400000 in
theorem rsub_any (a b : Int) (w : World) :
    Calls Try.prog 40 #[.int .i64 a, .int .i64 b] w fun e w' => e = .returned (.tuple #[.int .i64 (subQ a b), .bool (subO a b)]) ∧ w = w' := by
  have := cl_bd a
  have := cl_bd b
  go_enter Try.func40, Try.ntmps40
  go_wp2_with (first | (go_at_call 73; refine (rclamp_any _ _).mono ?_; rintro e w' ⟨rfl, rfl⟩))
  all_goals
    go_ret2
    exact ⟨ret2 rfl (by simp [subO, *]), rfl⟩

/-- back: a size n (f: it is too great to tell), turned by b. -/
theorem back_math {n v : Int} {f b c : Bool} (hn : 0 ≤ n) (hf : f = true → 70368744177664 < n) (hv : cl (neg b n) = v) (hc : clo (neg b n) = c) :
    (b = true → (f = true ∨ 70368744177664 < n) → v = -70368744177664 ∧ c = true) ∧ (b = true → f = false → n ≤ 70368744177664 → v = -n ∧ c = false) ∧
    (b = false → (f = true ∨ 70368744177663 < n) → v = 70368744177663 ∧ c = true) ∧ (b = false → f = false → n ≤ 70368744177663 → v = n ∧ c = false) := by
  subst hv; subst hc
  refine ⟨?_, ?_, ?_, ?_⟩
  · rintro rfl h
    have h' : 70368744177664 < n := by rcases h with h | h; exact hf h; exact h
    simp only [neg, cl, clo, if_true]
    refine ⟨by rw [if_neg (by omega), if_pos (by omega)], by simp; omega⟩
  · rintro rfl - h
    simp only [neg, cl, clo, if_true]
    refine ⟨by rw [if_neg (by omega), if_neg (by omega)], by simp; omega⟩
  · rintro rfl h
    have h' : 70368744177663 < n := by rcases h with h | h; have := hf h; omega; exact h
    simp only [neg, cl, clo, Bool.false_eq_true, if_false]
    refine ⟨by rw [if_pos (by omega)], by simp; omega⟩
  · rintro rfl - h
    simp only [neg, cl, clo, Bool.false_eq_true, if_false]
    refine ⟨by rw [if_neg (by omega), if_neg (by omega)], by simp; omega⟩

set_option maxHeartbeats 400000 in
theorem rback_of (n m v : Int) (f b c : Bool) (w : World) (hm : f = false → m = n) (hb : f = false → n < 9223372036854775808) (hn : 0 ≤ n) (hf : f = true → 70368744177664 < n) (hv : cl (neg b n) = v) (hc : clo (neg b n) = c) :
    Calls Try.prog 75 #[.int .i64 m, .bool f, .bool b] w fun e w' => e = .returned (.tuple #[.int .i64 v, .bool c]) ∧ w = w' := by
  obtain ⟨g1, g2, g3, g4⟩ := back_math hn hf hv hc
  clear hv hc
  have G1 := Lib.hid g1
  have G2 := Lib.hid g2
  have G3 := Lib.hid g3
  have G4 := Lib.hid g4
  have HM := Lib.hid hm
  have HF := Lib.hid hf
  clear g1 g2 g3 g4 hf hm
  cases f with
  | true =>
    clear hb
    cases b
    all_goals
      go_enter Try.func75, Try.ntmps75
      go_wp2
      go_ret2
    · exact ⟨by rw [(G3.out (by simp) (Or.inl (by simp))).1, (G3.out (by simp) (Or.inl (by simp))).2]; rfl, rfl⟩
    · exact ⟨by rw [(G1.out (by simp) (Or.inl (by simp))).1, (G1.out (by simp) (Or.inl (by simp))).2]; rfl, rfl⟩
  | false =>
    obtain rfl := HM.out rfl
    clear HM
    have hb := hb rfl
    cases b with
    | true =>
      go_enter Try.func75, Try.ntmps75
      go_wp2
      · go_ret2
        have h : 70368744177664 < m := by assumption
        exact ⟨by rw [(G1.out (by simp) (Or.inr h)).1, (G1.out (by simp) (Or.inr h)).2]; rfl, rfl⟩
      · go_ret2
        have h : m ≤ 70368744177664 := by omega
        exact ⟨by rw [(G2.out (by simp) (by simp) h).1, (G2.out (by simp) (by simp) h).2]; rfl, rfl⟩
    | false =>
      go_enter Try.func75, Try.ntmps75
      go_wp2
      · go_ret2
        have h : 70368744177663 < m := by assumption
        exact ⟨by rw [(G3.out (by simp) (Or.inr h)).1, (G3.out (by simp) (Or.inr h)).2]; rfl, rfl⟩
      · go_ret2
        have h : m ≤ 70368744177663 := by omega
        exact ⟨by rw [(G4.out (by simp) (by simp) h).1, (G4.out (by simp) (by simp) h).2]; rfl, rfl⟩

end Go.Proofs.Ytijohedhbbddjaa

namespace Go.Proofs.Ytijohedhbbddjaa
open Go.RowKit


theorem mul_bd {a b m n : Int} (ha0 : 0 ≤ a) (ha : a ≤ m) (hb0 : 0 ≤ b) (hb : b ≤ n) : 0 ≤ a * b ∧ a * b ≤ m * n :=
  ⟨Int.mul_nonneg ha0 hb0, Int.mul_le_mul ha hb hb0 (by omega)⟩

theorem split24 (x y : Int) : x * y = (x / 16777216 * (y / 16777216)) * 281474976710656 + (x / 16777216 * (y % 16777216) + x % 16777216 * (y / 16777216)) * 16777216 + x % 16777216 * (y % 16777216) := by
  have ex : x = x / 16777216 * 16777216 + x % 16777216 := by omega
  have ey : y = y / 16777216 * 16777216 + y % 16777216 := by omega
  generalize x / 16777216 = x1 at *
  generalize x % 16777216 = x0 at *
  generalize y / 16777216 = y1 at *
  generalize y % 16777216 = y0 at *
  subst ex; subst ey
  grind

theorem rnd_bd (N : Int) (h0 : 0 ≤ N) (h : N ≤ 4951760157141521099596496896) : 0 ≤ rnd N 16777216 ∧ rnd N 16777216 ≤ 295147905179352825857 := by unfold rnd; omega

set_option maxRecDepth 100000 in
set_option maxHeartbeats 1000000 in
theorem rmul_any (a b : Int) (w : World) :
    Calls Try.prog 14 #[.int .i64 a, .int .i64 b] w fun e w' => e = .returned (.tuple #[.int .i64 (mulQ a b), .bool (mulO a b)]) ∧ w = w' := by
  have ha := cl_bd a
  have hb := cl_bd b
  have haa := ab_bd a
  have hbb := ab_bd b
  have hp := mul_pq a b
  have hs := split24 (ab (cl a)) (ab (cl b))
  obtain ⟨p, hpp⟩ : ∃ p, cl a = p := ⟨_, rfl⟩
  obtain ⟨q, hqq⟩ : ∃ q, cl b = q := ⟨_, rfl⟩
  obtain ⟨x, hx⟩ : ∃ x, ab p = x := ⟨_, rfl⟩
  obtain ⟨y, hy⟩ : ∃ y, ab q = y := ⟨_, rfl⟩
  have hca := rclamp_any a w
  have hcb := rclamp_any b w
  have hpa := rabs_any p w (by omega) (by omega)
  have hqa := rabs_any q w (by omega) (by omega)
  rw [hpp] at hca
  rw [hqq] at hcb
  rw [hx] at hpa
  rw [hy] at hqa
  have hr : rnd (x * y) 16777216 = rnd (ab (cl a) * ab (cl b)) 16777216 := by rw [hpp, hqq, hx, hy]
  rw [hpp, hqq, hx, hy] at hp hs
  rw [hpp, hx] at haa
  rw [hqq, hy] at hbb
  rw [hpp] at ha
  rw [hqq] at hb
  obtain ⟨N, hN⟩ : ∃ N, x * y = N := ⟨_, rfl⟩
  obtain ⟨r, hr'⟩ : ∃ r, rnd (x * y) 16777216 = r := ⟨_, rfl⟩
  obtain ⟨v, hv⟩ : ∃ v, mulQ a b = v := ⟨_, rfl⟩
  obtain ⟨c, hc⟩ : ∃ c, clo (mulE a b) = c := ⟨_, rfl⟩
  have HV : Hid (cl (neg (sgn p q) r) = v) := by show _ = _; rw [← hv, ← hr', hr, ← hpp, ← hqq]; rfl
  have HC : Hid (clo (neg (sgn p q) r) = c) := by show _ = _; rw [← hc, ← hr', hr, ← hpp, ← hqq]; rfl
  have hO : mulO a b = ((clo a || clo b) || c) := by rw [← hc]; rfl
  rw [hv, hO]
  rw [hN] at hp hs hr'
  have hrb := rnd_bd N hp.1 hp.2
  rw [hr'] at hrb
  have HR := Lib.hid (rnd_fact hr')
  obtain ⟨A, hA⟩ : ∃ A, x / 16777216 * (y / 16777216) = A := ⟨_, rfl⟩
  obtain ⟨B, hB⟩ : ∃ B, x / 16777216 * (y % 16777216) = B := ⟨_, rfl⟩
  obtain ⟨C, hC⟩ : ∃ C, x % 16777216 * (y / 16777216) = C := ⟨_, rfl⟩
  obtain ⟨D, hD⟩ : ∃ D, x % 16777216 * (y % 16777216) = D := ⟨_, rfl⟩
  have bA := mul_bd (a := x / 16777216) (b := y / 16777216) (m := 4194304) (n := 4194304) (by omega) (by omega) (by omega) (by omega)
  have bB := mul_bd (a := x / 16777216) (b := y % 16777216) (m := 4194304) (n := 16777216) (by omega) (by omega) (by omega) (by omega)
  have bC := mul_bd (a := x % 16777216) (b := y / 16777216) (m := 16777216) (n := 4194304) (by omega) (by omega) (by omega) (by omega)
  have bD := mul_bd (a := x % 16777216) (b := y % 16777216) (m := 16777216) (n := 16777216) (by omega) (by omega) (by omega) (by omega)
  rw [hA] at bA hs
  rw [hB] at bB hs
  rw [hC] at bC hs
  rw [hD] at bD hs
  have e6 : ∀ x y : Int, (decide (x < 0) == decide (y < 0)) = !(sgn x y) := fun x y => by simp [sgn, bne]
  have e7 : ∀ x y : Int, (x == y) = decide (x = y) := fun _ _ => rfl
  have HS := Lib.hid hs
  have HP := Lib.hid hp
  have HRB := Lib.hid hrb
  clear hr hr' hv hc hpp hqq hx hy hN hO hs hp hrb
  have H1 : A < 16777216 → r < 9223372036854775808 := by have := HR.out; have := HS.out; intro _; omega
  have H2 : 16777216 ≤ A → 70368744177664 < r := by have := HR.out; have := HS.out; intro _; omega
  have h1 := Lib.hid H1
  have h2 := Lib.hid H2
  clear H1 H2
  by_cases hfar : 16777216 ≤ A
  · go_enter Try.func14, Try.ntmps14
    go_wp2_with (first | (go_at_call 73; first | ((with_reducible refine hca.mono ?_); rintro e w' ⟨rfl, rfl⟩) | ((with_reducible refine hcb.mono ?_); rintro e w' ⟨rfl, rfl⟩)) | (go_at_call 74; first | ((with_reducible refine hpa.mono ?_); rintro e w' ⟨rfl, rfl⟩) | ((with_reducible refine hqa.mono ?_); rintro e w' ⟨rfl, rfl⟩)) | (go_at_call 75; refine (rback_of r _ v _ _ c _ (by simp) (by simp) HRB.out.1 (fun _ => h2.out hfar) HV.out HC.out).mono ?_; rintro e w' ⟨rfl, rfl⟩))
    all_goals go_ret2
    all_goals exact ⟨ret2 rfl (by simp [*]), rfl⟩
  · have hnf : A < 16777216 := by omega
    have h3 := h1.out hnf
    have hd : decide (16777216 ≤ A) = false := by simpa using hfar
    go_enter Try.func14, Try.ntmps14
    go_wp2_with (first | (go_at_call 73; first | ((with_reducible refine hca.mono ?_); rintro e w' ⟨rfl, rfl⟩) | ((with_reducible refine hcb.mono ?_); rintro e w' ⟨rfl, rfl⟩)) | (go_at_call 74; first | ((with_reducible refine hpa.mono ?_); rintro e w' ⟨rfl, rfl⟩) | ((with_reducible refine hqa.mono ?_); rintro e w' ⟨rfl, rfl⟩)) | (go_at_call 75; refine (rback_of r _ v _ _ c _ (fun _ => by have := HR.out; have := HS.out; omega) (fun _ => h3) HRB.out.1 (by simp) HV.out HC.out).mono ?_; rintro e w' ⟨rfl, rfl⟩))
    all_goals go_ret2
    all_goals exact ⟨ret2 rfl (by simp [*]), rfl⟩

/-- A number by 2, a tie to the even one. -/
def half1 (n : Int) : Int := rnd n 2
/-- A number by 2^24, a tie to the even one. -/
def half24 (n : Int) : Int := rnd n 16777216

theorem and1i (n : Int) : bits .and .i64 n 1 = n % 2 := by
  have h1 : (BitVec.ofInt 64 1).toNat = 2 ^ 1 - 1 := by decide
  have key : (BitVec.ofInt 64 n &&& BitVec.ofInt 64 1).toNat = (n % ((2 ^ 64 : Nat) : Int)).toNat % 2 ^ 1 := by
    rw [BitVec.toNat_and, BitVec.toNat_ofInt, h1, Nat.and_two_pow_sub_one_eq_mod]
  show IntKind.i64.wrap ((BitVec.ofInt 64 n &&& BitVec.ofInt 64 1).toNat : Nat) = n % 2
  rw [key, IntKind.wrap_i64]
  omega
theorem and1w (n : Int) (h : -9223372036854775808 ≤ n) (h2 : n < 9223372036854775808) : bits .and .u64 (IntKind.u64.wrap n) 1 = n % 2 := by
  rw [IntKind.wrap_u64, and1u _ (by omega) (by omega)]; omega
theorem and24w (n : Int) (h : -9223372036854775808 ≤ n) (h2 : n < 9223372036854775808) : bits .and .u64 (IntKind.u64.wrap n) 16777215 = n % 16777216 := by
  rw [IntKind.wrap_u64, and24 _ (by omega) (by omega)]; omega

set_option maxHeartbeats 400000 in
theorem half1_any (n : Int) (w : World) (h : -9223372036854775808 ≤ n) (h2 : n < 9223372036854775807) :
    Calls Try.prog 80 #[.int .i64 n, .int .i64 1] w fun e w' => e = .returned (.int .i64 (half1 n)) ∧ w = w' := by
  have e1 := and1i
  have e2 := and1w n h (by omega)
  have e7 : ∀ x y : Int, (x == y) = decide (x = y) := fun _ _ => rfl
  go_enter Try.func80, Try.ntmps80
  go_wp2
  all_goals
    go_ret
    exact ⟨retI (by unfold half1 rnd; first | rw [if_pos (by omega)] | rw [if_neg (by omega)]), rfl⟩

set_option maxHeartbeats 400000 in
theorem half24_any (n : Int) (w : World) (h : -9223372036854775808 ≤ n) (h2 : n < 9223372036854775807) :
    Calls Try.prog 80 #[.int .i64 n, .int .i64 24] w fun e w' => e = .returned (.int .i64 (half24 n)) ∧ w = w' := by
  have e1 := and1i
  have e2 := and24w n h (by omega)
  have e7 : ∀ x y : Int, (x == y) = decide (x = y) := fun _ _ => rfl
  go_enter Try.func80, Try.ntmps80
  go_wp2
  all_goals
    go_ret
    exact ⟨retI (by unfold half24 rnd; first | rw [if_pos (by omega)] | rw [if_neg (by omega)]), rfl⟩


theorem t2cases (n : Int) : (n.tmod 2 = 0 ∧ n.tdiv 2 = n / 2 ∧ n % 2 = 0) ∨ (n.tmod 2 = 1 ∧ n.tdiv 2 = n / 2 ∧ n % 2 = 1) ∨ (n.tmod 2 = -1 ∧ n.tdiv 2 = n / 2 + 1 ∧ n % 2 = 1) := by
  rcases (by omega : n < 0 ∨ 0 ≤ n) with h | h
  · obtain ⟨m, rfl⟩ : ∃ m : Int, n = -m := ⟨-n, by omega⟩
    rw [Int.neg_tmod, Int.neg_tdiv, Int.tmod_eq_emod_of_nonneg (by omega), Int.tdiv_eq_ediv_of_nonneg (by omega)]
    omega
  · rw [Int.tmod_eq_emod_of_nonneg (by omega), Int.tdiv_eq_ediv_of_nonneg (by omega)]
    omega

set_option maxHeartbeats 400000 in
theorem rhalf1_any (n : Int) (w : World) (h : -9223372036854775808 ≤ n) (h2 : n < 9223372036854775807) :
    Calls Try.prog 91 #[.int .i64 n, .int .i64 1] w fun e w' => e = .returned (.int .i64 (half1 n)) ∧ w = w' := by
  have e7 : ∀ x y : Int, (x == y) = decide (x = y) := fun _ _ => rfl
  have e8 : ∀ x : Int, (x.tmod 2 != 0) = decide (x % 2 = 1) := fun x => by
    rcases t2cases x with h | h | h <;> rw [h.1] <;> simp [h.2.2]
  rcases t2cases n with ⟨h3, h4, h5⟩ | ⟨h3, h4, h5⟩ | ⟨h3, h4, h5⟩
  all_goals
    have H5 := Lib.hid h5
    clear h5
    go_enter Try.func91, Try.ntmps91
    go_wp2
    refine wp_loop_rounds 2 ?_
    rw [rounds_succ]
    go_wp2
    rw [rounds_succ]
    go_wp2
    all_goals
      go_ret
      have h5 := H5.out
      exact ⟨retI (by unfold half1 rnd; first | rw [if_pos (by omega)] | rw [if_neg (by omega)] | (rw [if_pos (by omega)]; omega) | (rw [if_neg (by omega)]; omega)), rfl⟩



end Go.Proofs.Ytijohedhbbddjaa

namespace Go.Proofs.Ytijohedhbbddjaa
open Go.RowKit

/-- r is the whole root of N. -/
def IsRt (N r : Int) : Prop := 0 ≤ r ∧ r * r ≤ N ∧ N < (r + 1) * (r + 1)

/-- With j bits to come: r is the root but for them. -/
def RtAt (N : Int) (j : Nat) (r : Int) : Prop := ∃ m : Nat, r = (m * 2 ^ j : Nat) ∧ r * r ≤ N ∧ N < (r + (2 ^ j : Nat)) * (r + (2 ^ j : Nat))

def bitAt (j : Nat) : Int := if j = 0 then 0 else ((2 ^ (j - 1) : Nat) : Int)

theorem or_pow (m j : Nat) (hj : j ≤ 35) (hm : m * 2 ^ (j + 1) < 18446744073709551616) : bits .or .u64 ((m * 2 ^ (j + 1) : Nat) : Int) ((2 ^ j : Nat) : Int) = ((m * 2 ^ (j + 1) + 2 ^ j : Nat) : Int) := by
  have hp : 2 ^ j < 18446744073709551616 := by
    have := Nat.pow_le_pow_right (show 0 < 2 by omega) hj; omega
  rw [bits_or_u64_nat _ _ hm hp]
  congr 1
  rw [← Nat.shiftLeft_eq, ← Nat.shiftLeft_add_eq_or_of_lt]
  rw [Nat.pow_succ]; have := Nat.two_pow_pos j; omega

theorem rt_lt {N r : Int} {j : Nat} (h : RtAt N j r) (hN : N < 1180591620717411303424) : 0 ≤ r ∧ r < 34359738368 := by
  obtain ⟨m, rfl, h1, -⟩ := h
  refine ⟨by omega, ?_⟩
  rcases (by omega : ((m * 2 ^ j : Nat) : Int) < 34359738368 ∨ (34359738368 : Int) ≤ ((m * 2 ^ j : Nat) : Int)) with h | h
  · exact h
  · have := Int.mul_le_mul h h (by omega) (by omega)
    omega

theorem rt_yes {N : Int} {j m : Nat} (h : RtAt N (j + 1) ((m * 2 ^ (j + 1) : Nat) : Int)) (hc : ((m * 2 ^ (j + 1) + 2 ^ j : Nat) : Int) * ((m * 2 ^ (j + 1) + 2 ^ j : Nat) : Int) ≤ N) : RtAt N j ((m * 2 ^ (j + 1) + 2 ^ j : Nat) : Int) := by
  obtain ⟨m', he, h1, h2⟩ := h
  refine ⟨2 * m + 1, by rw [Nat.pow_succ]; congr 1; grind, hc, ?_⟩
  have e : (((m * 2 ^ (j + 1) + 2 ^ j : Nat) : Int) + ((2 ^ j : Nat) : Int)) = (((m * 2 ^ (j + 1) : Nat) : Int) + ((2 ^ (j + 1) : Nat) : Int)) := by rw [Nat.pow_succ]; omega
  rw [e]; exact h2
theorem rt_no {N : Int} {j m : Nat} (h : RtAt N (j + 1) ((m * 2 ^ (j + 1) : Nat) : Int)) (hc : N < ((m * 2 ^ (j + 1) + 2 ^ j : Nat) : Int) * ((m * 2 ^ (j + 1) + 2 ^ j : Nat) : Int)) : RtAt N j ((m * 2 ^ (j + 1) : Nat) : Int) := by
  obtain ⟨m', he, h1, h2⟩ := h
  refine ⟨2 * m, by rw [Nat.pow_succ]; congr 1; grind, h1, ?_⟩
  have e : (((m * 2 ^ (j + 1) : Nat) : Int) + ((2 ^ j : Nat) : Int)) = ((m * 2 ^ (j + 1) + 2 ^ j : Nat) : Int) := by omega
  rw [e]; exact hc
theorem rt_end {N r : Int} (h : RtAt N 0 r) : IsRt N r := by
  obtain ⟨m, rfl, h1, h2⟩ := h
  exact ⟨by omega, h1, by simpa using h2⟩
theorem bit_half (j : Nat) : bitAt (j + 1) / 2 = bitAt j := by
  unfold bitAt
  cases j with
  | zero => decide
  | succ j => simp only [Nat.add_sub_cancel]; rw [if_neg (by omega), if_neg (by omega), Nat.pow_succ]; omega

set_option maxHeartbeats 1000000 in
theorem sqrt_any (a : Int) (w : World) :
    Calls Try.prog 26 #[.int .i64 a] w fun e w' => w = w' ∧ ((cl a < 0 ∧ e = .returned (.tuple #[.int .i64 0, .bool true])) ∨ (0 ≤ cl a ∧ ∃ r, e = .returned (.tuple #[.int .i64 r, .bool (clo a)]) ∧ IsRt (cl a * 16777216) r)) := by
  have hc := clamp_any a w
  have hb := cl_bd a
  obtain ⟨p, hp⟩ : ∃ p, cl a = p := ⟨_, rfl⟩
  rw [hp] at hc hb ⊢
  clear hp
  have e7 : ∀ x y : Int, (x == y) = decide (x = y) := fun _ _ => rfl
  by_cases hneg : p < 0
  · go_enter Try.func26, Try.ntmps26
    go_wp2_with (go_at_call 82; refine hc.mono ?_; rintro e w' ⟨rfl, rfl⟩)
    go_ret2
    exact ⟨rfl, Or.inl ⟨hneg, rfl⟩⟩
  · have hp0 : 0 ≤ p := by omega
    obtain ⟨N, hN⟩ : ∃ N, p * 16777216 = N := ⟨_, rfl⟩
    have hN1 : 0 ≤ N ∧ N < 1180591620717411303424 := by omega
    have e1 : p / 1099511627776 = N / 18446744073709551616 := by omega
    have e2 : IntKind.u64.wrap N = N % 18446744073709551616 := IntKind.wrap_u64 N
    have HN1 := Lib.hid hN1
    clear hN1 hneg
    go_enter Try.func26, Try.ntmps26
    go_wp2_with (go_at_call 82; refine hc.mono ?_; rintro e w' ⟨rfl, rfl⟩)
    clear e1 e2 hc
    go_loopg [7, 8] 36 (fun n rv bv wr => w = wr ∧ ∃ r : Int, rv = .int .u64 r ∧ bv = .int .u64 (bitAt n) ∧ n ≤ 36 ∧ RtAt N n r)
    case atStart => exact ⟨rfl, 0, rfl, rfl, by omega, 0, by simp, by have := HN1.out; omega, by have := HN1.out; simp; omega⟩
    case round =>
      obtain ⟨rfl, r, rfl, rfl, hn, hr⟩ := hrel
      have HR := Lib.hid hr
      clear hr
      cases gk with
      | zero =>
        have e3 : bitAt 0 = 0 := rfl
        have hb := rt_lt HR.out HN1.out.2
        go_wp2_with fail
        go_ret2
        exact ⟨rfl, Or.inr ⟨hp0, r, rfl, by rw [hN]; exact rt_end HR.out⟩⟩
      | succ j =>
        obtain ⟨m, rfl, h1, h2⟩ := id HR.out
        have hb := rt_lt HR.out HN1.out.2
        have hbit : bitAt (j + 1) = ((2 ^ j : Nat) : Int) := by unfold bitAt; rw [if_neg (by omega)]; rfl
        have hpw : 2 ^ j ≤ 34359738368 := Nat.pow_le_pow_right (show 0 < 2 by omega) (show j ≤ 35 by omega)
        have hpw0 := Nat.two_pow_pos j
        have hor := or_pow m j (by omega) (by omega)
        have hhalf := bit_half j
        rw [hbit] at hhalf
        obtain ⟨R, hR⟩ : ∃ R, m * 2 ^ (j + 1) = R := ⟨_, rfl⟩
        obtain ⟨B, hB⟩ : ∃ B, 2 ^ j = B := ⟨_, rfl⟩
        have hyes := rt_yes HR.out
        have hno := rt_no HR.out
        rw [hR, hB] at hyes hno hor
        rw [hR] at hb h1 h2 ⊢
        rw [hB] at hpw hpw0 hbit hhalf
        have HY := Lib.hid hyes
        have HNo := Lib.hid hno
        have hRr := HR.out
        rw [hR] at hRr
        clear hyes hno h1 h2 hR hB HR hRr
        obtain ⟨S, hS⟩ : ∃ S : Int, ((R + B : Nat) : Int) * ((R + B : Nat) : Int) = S := ⟨_, rfl⟩
        have hS1 : 0 ≤ S ∧ S < 18889465931478580854784 := by
          rw [← hS]
          refine ⟨Int.mul_nonneg (by omega) (by omega), ?_⟩
          have := Int.mul_le_mul (show ((R + B : Nat) : Int) ≤ 68719476736 by omega) (show ((R + B : Nat) : Int) ≤ 68719476736 by omega) (by omega) (by omega)
          omega
        rw [hS] at HY HNo
        have HS1 := Lib.hid hS1
        have HN2 := HN1
        have hmul := mul64_any ((R + B : Nat) : Int) ((R + B : Nat) : Int) w (by omega) (by omega) (by omega) (by omega)
        rw [hS] at hmul
        clear hS hS1
        obtain ⟨C, hC⟩ : ∃ C : Int, ((R + B : Nat) : Int) = C := ⟨_, rfl⟩
        have hCb : C = R + B := by omega
        rw [hC] at hmul hor HY
        clear hC
        have HC := Lib.hid hCb
        clear hCb
        have hC1 : 0 ≤ C ∧ C < 18446744073709551616 := by have := HC.out; omega
        go_wp2_with (go_at_call 83; refine hmul.mono ?_; rintro e w' ⟨rfl, rfl⟩)
        · go_roundg j
          case measure => omega
          case rel => exact ⟨rfl, C, rfl, rfl, by omega, HY.out (by omega)⟩
        · go_roundg j
          case measure => omega
          case rel => exact ⟨rfl, C, rfl, rfl, by omega, HY.out (by omega)⟩
        · go_roundg j
          case measure => omega
          case rel => exact ⟨rfl, R, rfl, rfl, by omega, HNo.out (by omega)⟩
        · go_roundg j
          case measure => omega
          case rel => exact ⟨rfl, R, rfl, rfl, by omega, HNo.out (by omega)⟩

end Go.Proofs.Ytijohedhbbddjaa
