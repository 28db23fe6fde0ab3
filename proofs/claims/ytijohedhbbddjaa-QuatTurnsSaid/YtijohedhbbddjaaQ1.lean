/- The walks of layer 1 (qfix). -/
import Derived.Test.YtijohedhbbddjaaW0
import Derived.Test.YtijohedhbbddjaaM1
namespace Go.Proofs.Ytijohedhbbddjaa
open Go.RowKit


set_option maxHeartbeats 400000 in
theorem clamp_any (a : Int) (w : World) :
    Calls Try.prog 82 #[.int .i64 a] w fun e w' => e = .returned (.tuple #[.int .i64 (cl a), .bool (clo a)]) ∧ w = w' := by
  go_enter Try.func82, Try.ntmps82
  go_wp2
  all_goals
    go_ret2
    refine ⟨ret2 ?_ ?_, rfl⟩
    · unfold cl; (repeat' split) <;> (repeat' split at *) <;> omega
    · unfold clo; rw [Bool.eq_iff_iff]; simp [bne] <;> (repeat' split at *) <;> omega

set_option maxHeartbeats 400000 in
theorem both_any (a b : Int) (w : World) :
    Calls Try.prog 81 #[.int .i64 a, .int .i64 b] w fun e w' => e = .returned (.tuple #[.int .i64 (cl a), .int .i64 (cl b), .bool (clo a || clo b)]) ∧ w = w' := by
  rcases Bool.eq_false_or_eq_true (clo a) with h | h
  all_goals
    go_enter Try.func81, Try.ntmps81
    go_wp2_with (go_at_call 82; refine (clamp_any _ _).mono ?_; rintro e w' ⟨rfl, rfl⟩)
    go_ret3
    exact ⟨ret3 rfl rfl (by simp [*]), rfl⟩

theorem both_of (a b : Int) (o : Bool) (ho : (clo a || clo b) = o) (w : World) :
    Calls Try.prog 81 #[.int .i64 a, .int .i64 b] w fun e w' => e = .returned (.tuple #[.int .i64 (cl a), .int .i64 (cl b), .bool o]) ∧ w = w' := by
  subst ho; exact both_any a b w

set_option maxHeartbeats 400000 in
theorem add_any (a b : Int) (w : World) :
    Calls Try.prog 24 #[.int .i64 a, .int .i64 b] w fun e w' => e = .returned (.tuple #[.int .i64 (addQ a b), .bool (addO a b)]) ∧ w = w' := by
  have := cl_bd a
  have := cl_bd b
  obtain ⟨o, ho⟩ : ∃ o, (clo a || clo b) = o := ⟨_, rfl⟩
  have H := Lib.hid ho
  cases o
  all_goals
    clear ho
    go_enter Try.func24, Try.ntmps24
    go_wp2_with (first | (go_at_call 81; refine (both_of _ _ _ H.out _).mono ?_; rintro e w' ⟨rfl, rfl⟩) | (go_at_call 82; refine (clamp_any _ _).mono ?_; rintro e w' ⟨rfl, rfl⟩))
    go_ret2
    exact ⟨ret2 rfl (by simp [addO, H.out]), rfl⟩

set_option maxHeartbeats 400000 in
theorem sub_any (a b : Int) (w : World) :
    Calls Try.prog 39 #[.int .i64 a, .int .i64 b] w fun e w' => e = .returned (.tuple #[.int .i64 (subQ a b), .bool (subO a b)]) ∧ w = w' := by
  have := cl_bd a
  have := cl_bd b
  obtain ⟨o, ho⟩ : ∃ o, (clo a || clo b) = o := ⟨_, rfl⟩
  have H := Lib.hid ho
  cases o
  all_goals
    clear ho
    go_enter Try.func39, Try.ntmps39
    go_wp2_with (first | (go_at_call 81; refine (both_of _ _ _ H.out _).mono ?_; rintro e w' ⟨rfl, rfl⟩) | (go_at_call 82; refine (clamp_any _ _).mono ?_; rintro e w' ⟨rfl, rfl⟩))
    go_ret2
    exact ⟨ret2 rfl (by simp [subO, H.out]), rfl⟩

set_option maxHeartbeats 400000 in
theorem size_any (a : Int) (w : World) (h1 : -9223372036854775808 < a) (h2 : a < 9223372036854775808) :
    Calls Try.prog 84 #[.int .i64 a] w fun e w' => e = .returned (.int .u64 (ab a)) ∧ w = w' := by
  go_enter Try.func84, Try.ntmps84
  go_wp2
  · go_ret
    exact ⟨retI (by unfold ab; simp; omega), rfl⟩
  · go_ret
    exact ⟨retI (by unfold ab; simp; omega), rfl⟩

set_option maxHeartbeats 400000 in
theorem mul64_any (x y : Int) (w : World) (hx0 : 0 ≤ x) (hx : x < 18446744073709551616) (hy0 : 0 ≤ y) (hy : y < 18446744073709551616) :
    Calls Try.prog 83 #[.int .u64 x, .int .u64 y] w fun e w' => e = .returned (.tuple #[.int .u64 (x * y / 18446744073709551616), .int .u64 (x * y % 18446744073709551616)]) ∧ w = w' := by
  go_enter Try.func83, Try.ntmps83
  go_wp2
  go_ret2
  refine ⟨?_, rfl⟩
  have e1 := mul64_arith x y hx0 hx hy0 hy
  rw [← and_low32 x hx0 hx, ← and_low32 y hy0 hy] at e1
  have e2 : ∀ z : Int, bits .and .u64 (z % 18446744073709551616) 4294967295 = (z % 18446744073709551616) % 4294967296 := fun z => and_low32 _ (by omega) (by omega)
  rw [← e2] at e1
  show Ending.returned (.tuple #[.int .u64 _, .int .u64 _]) = _
  simp only [IntKind.wrap_u64, e1]

set_option maxHeartbeats 400000 in
theorem turn_any (a : Int) (p : Addr) (b : Bool) (w : World) (ha : -9223372036854775808 < a ∧ a < 9223372036854775808) (hp : w.cell? p = some (.bool b)) :
    Calls Try.prog 114 #[.int .i64 a, .pointer (some p)] w fun e w' => e = .returned (.int .i64 (neg b a)) ∧ w = w' := by
  go_enter Try.func114, Try.ntmps114
  cases b <;> go_wp2
  all_goals
    go_ret
    exact ⟨retI (by simp [neg]), rfl⟩


/- What signed is handed: a size in two words, and a sign. -/
set_option maxHeartbeats 400000 in
theorem signed_any (h l : Int) (b : Bool) (w : World) (hh : 0 ≤ h ∧ h < 18446744073709551616) (hl : 0 ≤ l ∧ l < 18446744073709551616) :
    Calls Try.prog 85 #[.int .u64 h, .int .u64 l, .bool b] w fun e w' =>
      e = .returned (.tuple #[.int .i64 (cl (neg b (h * 18446744073709551616 + l))), .bool (clo (neg b (h * 18446744073709551616 + l)))]) ∧ Below w.heap.size w w' := by
  obtain ⟨h1, h2⟩ := hh
  obtain ⟨l1, l2⟩ := hl
  go_enter Try.func85, Try.ntmps85
  go_wp2_with (first | (go_at_call 114; refine (turn_any _ _ b _ (by omega) (by simp)).mono ?_; rintro e w' ⟨rfl, rfl⟩) | (go_at_call 82; refine (clamp_any _ _).mono ?_; rintro e w' ⟨rfl, rfl⟩))
  all_goals
    go_ret2
    refine ⟨ret2 ?_ ?_, below1 _ _⟩
    · cases b <;> simp only [cl, neg] <;> (repeat' split) <;> first | omega | simp_all
    · rw [Bool.eq_iff_iff]; cases b <;> simp [clo, neg] <;> omega

theorem mul_pq (a b : Int) : 0 ≤ ab (cl a) * ab (cl b) ∧ ab (cl a) * ab (cl b) ≤ 4951760157141521099596496896 := by
  have h1 := ab_bd a
  have h2 := ab_bd b
  refine ⟨Int.mul_nonneg h1.1 h2.1, ?_⟩
  have := Int.mul_le_mul h1.2 h2.2 h2.1 (by omega : (0 : Int) ≤ 70368744177664)
  simpa using this

theorem signed_of (h l n v : Int) (c : Bool) (b : Bool) (w : World) (hh : 0 ≤ h ∧ h < 18446744073709551616) (hl : 0 ≤ l ∧ l < 18446744073709551616) (hn : h * 18446744073709551616 + l = n)
    (hv : cl (neg b n) = v) (hc : clo (neg b n) = c) :
    Calls Try.prog 85 #[.int .u64 h, .int .u64 l, .bool b] w fun e w' => e = .returned (.tuple #[.int .i64 v, .bool c]) ∧ Below w.heap.size w w' := by
  subst hn; subst hv; subst hc; exact signed_any h l b w hh hl

theorem and24 (z : Int) (h0 : 0 ≤ z) (h1 : z < 18446744073709551616) : bits .and .u64 z 16777215 = z % 16777216 := by go_bits2
theorem and1u (z : Int) (h0 : 0 ≤ z) (h1 : z < 18446744073709551616) : bits .and .u64 z 1 = z % 2 := by go_bits2
theorem or40 (x y : Int) (hx0 : 0 ≤ x) (hx : x < 1099511627776) (hy0 : 0 ≤ y) (hy : y < 18446744073709551616) (hm : y % 1099511627776 = 0) : bits .or .u64 x y = x + y := by
  obtain ⟨X, rfl⟩ := Int.eq_ofNat_of_zero_le hx0
  obtain ⟨Y, rfl⟩ := Int.eq_ofNat_of_zero_le hy0
  have hy' : Y = Y / 1099511627776 * 2 ^ 40 := by omega
  have e := bits_or_u64_nat X Y (by omega) (by omega)
  rw [e, hy', ← Nat.shiftLeft_eq, Nat.or_comm, ← Nat.shiftLeft_add_eq_or_of_lt (by omega : X < 2 ^ 40)]
  omega

theorem rnd_fact {N r : Int} (h : rnd N 16777216 = r) : ((16777216 < 2 * (N % 16777216) ∨ (2 * (N % 16777216) = 16777216 ∧ N / 16777216 % 2 = 1)) ∧ r = N / 16777216 + 1) ∨ ((¬ (16777216 < 2 * (N % 16777216) ∨ (2 * (N % 16777216) = 16777216 ∧ N / 16777216 % 2 = 1))) ∧ r = N / 16777216) := by
  subst h; unfold rnd; split
  · exact Or.inl ⟨‹_›, rfl⟩
  · exact Or.inr ⟨‹_›, rfl⟩

theorem sgn_cases (a b : Int) : (decide (a < 0) != decide (b < 0)) = sgn a b := rfl

set_option maxHeartbeats 1000000 in
theorem mul_any (a b : Int) (w : World) :
    Calls Try.prog 25 #[.int .i64 a, .int .i64 b] w fun e w' => e = .returned (.tuple #[.int .i64 (mulQ a b), .bool (mulO a b)]) ∧ Below w.heap.size w w' := by
  have ha := cl_bd a
  have hb := cl_bd b
  have haa := ab_bd a
  have hbb := ab_bd b
  have hp := mul_pq a b
  obtain ⟨p, hpp⟩ : ∃ p, cl a = p := ⟨_, rfl⟩
  obtain ⟨q, hqq⟩ : ∃ q, cl b = q := ⟨_, rfl⟩
  obtain ⟨N, hN⟩ : ∃ N, ab (cl a) * ab (cl b) = N := ⟨_, rfl⟩
  obtain ⟨r, hr⟩ : ∃ r, rnd N 16777216 = r := ⟨_, rfl⟩
  obtain ⟨v, hv⟩ : ∃ v, mulQ a b = v := ⟨_, rfl⟩
  obtain ⟨c, hc⟩ : ∃ c, clo (mulE a b) = c := ⟨_, rfl⟩
  obtain ⟨o, ho⟩ : ∃ o, (clo a || clo b) = o := ⟨_, rfl⟩
  have hv' : cl (neg (sgn p q) r) = v := by rw [← hv, ← hr, ← hN, ← hpp, ← hqq]; rfl
  have hc' : clo (neg (sgn p q) r) = c := by rw [← hc, ← hr, ← hN, ← hpp, ← hqq]; rfl
  have hO : mulO a b = (o || c) := by rw [← hc, ← ho]; rfl
  have HV := Lib.hid hv'
  have HC := Lib.hid hc'
  have HR := Lib.hid (rnd_fact hr)
  have HB : Hid (both_of a b o ho w = both_of a b o ho w) := rfl
  have hboth := both_of a b o ho w
  rw [hN] at hp
  rw [hpp, hqq] at hboth hN
  rw [hpp] at ha haa
  rw [hqq] at hb hbb
  have HN := Lib.hid hN
  rw [hv, hO]
  clear hv hc ho hv' hc' hr hN hpp hqq hO HB
  have e1 : bits .and .u64 (N % 18446744073709551616) 16777215 = N % 16777216 := by rw [and24 _ (by omega) (by omega)]; omega
  have e2 : bits .or .u64 (N % 18446744073709551616 / 16777216) (IntKind.u64.wrap (N / 18446744073709551616 * 1099511627776)) = N / 16777216 % 18446744073709551616 := by
    rw [IntKind.wrap_u64, or40 _ _ (by omega) (by omega) (by omega) (by omega) (by omega)]; omega
  have e4 : bits .and .u64 (N / 16777216 % 18446744073709551616) 1 = N / 16777216 % 2 := by rw [and1u _ (by omega) (by omega)]; omega
  have e5 : IntKind.u64.wrap (N / 16777216 % 18446744073709551616 + 1) = (N / 16777216 + 1) % 18446744073709551616 := by rw [IntKind.wrap_u64]; omega
  have e6 : ∀ x y : Int, (decide (x < 0) == decide (y < 0)) = !(sgn x y) := fun x y => by simp [sgn, bne]
  have e7 : ∀ x y : Int, (x == y) = decide (x = y) := fun _ _ => rfl
  go_enter Try.func25, Try.ntmps25
  go_wp2_with (first | (go_at_call 81; refine hboth.mono ?_; rintro e w' ⟨rfl, rfl⟩) | (go_at_call 84; refine (size_any _ _ (by omega) (by omega)).mono ?_; rintro e w' ⟨rfl, rfl⟩) | (go_at_call 83; refine (mul64_any _ _ _ (by omega) (by omega) (by omega) (by omega)).mono ?_; rw [HN.out]; rintro e w' ⟨rfl, rfl⟩) | (go_at_call 85; refine (signed_of _ _ r v c _ _ ⟨by omega, by omega⟩ ⟨by omega, by omega⟩ (by have := HR.out; omega) HV.out HC.out).mono ?_; rintro e w' ⟨rfl, hb⟩))
  all_goals go_ret2
  all_goals exact ⟨ret2 rfl (by simp [*]), ‹_›⟩

end Go.Proofs.Ytijohedhbbddjaa
