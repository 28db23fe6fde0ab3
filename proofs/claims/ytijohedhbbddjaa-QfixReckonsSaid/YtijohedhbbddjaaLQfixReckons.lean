/- The walk of the law QfixReckons. -/
import Derived.Test.YtijohedhbbddjaaR12
namespace Go.Proofs.Ytijohedhbbddjaa
open Go.RowKit

set_option maxRecDepth 100000 in
set_option maxHeartbeats 2000000 in
theorem qfixReckons_any (w : World) (a b : Int) :
    Calls Try.prog 7 #[.int .i64 a, .int .i64 b] w fun e w' => e = .returned (.bool true) ∧ Below w.heap.size w w' := by
  obtain ⟨n1, h1⟩ : ∃ n, addQ a b = n := ⟨_, rfl⟩
  obtain ⟨x1, g1⟩ : ∃ n, addO a b = n := ⟨_, rfl⟩
  obtain ⟨n2, h2⟩ : ∃ n, subQ a b = n := ⟨_, rfl⟩
  obtain ⟨x2, g2⟩ : ∃ n, subO a b = n := ⟨_, rfl⟩
  obtain ⟨n3, h3⟩ : ∃ n, mulQ a b = n := ⟨_, rfl⟩
  obtain ⟨x3, g3⟩ : ∃ n, mulO a b = n := ⟨_, rfl⟩
  obtain ⟨n4, h4⟩ : ∃ n, divQ a b = n := ⟨_, rfl⟩
  obtain ⟨x4, g4⟩ : ∃ n, divO a b = n := ⟨_, rfl⟩
  obtain ⟨n5, h5⟩ : ∃ n, sqrtQ a = n := ⟨_, rfl⟩
  obtain ⟨x5, g5⟩ : ∃ n, sqrtO a = n := ⟨_, rfl⟩
  have H1 := Lib.hid (And.intro h1 g1)
  have H2 := Lib.hid (And.intro h2 g2)
  have H3 := Lib.hid (And.intro h3 g3)
  have H4 := Lib.hid (And.intro h4 g4)
  have H5 := Lib.hid (And.intro h5 g5)
  clear h1 g1 h2 g2 h3 g3 h4 g4 h5 g5
  go_enter Try.func7, Try.ntmps7
  go_wp2_with (first | (go_at_call 23; refine (shown1_any _).mono ?_; rintro e w1 ⟨rfl, hb1⟩) | (go_at_call 24; refine (add_any a b _).mono ?_; rw [H1.out.1, H1.out.2]; rintro e w2 ⟨rfl, rfl⟩) | (go_at_call 38; refine (radd_any a b _).mono ?_; rw [H1.out.1, H1.out.2]; rintro e w2 ⟨rfl, rfl⟩) | (go_at_call 39; refine (sub_any a b _).mono ?_; rw [H2.out.1, H2.out.2]; rintro e w2 ⟨rfl, rfl⟩) | (go_at_call 40; refine (rsub_any a b _).mono ?_; rw [H2.out.1, H2.out.2]; rintro e w2 ⟨rfl, rfl⟩) | (go_at_call 25; refine (mul_any a b _).mono ?_; rw [H3.out.1, H3.out.2]; rintro e w3 ⟨rfl, hb3⟩) | (go_at_call 14; refine (rmul_any a b _).mono ?_; rw [H3.out.1, H3.out.2]; rintro e w2 ⟨rfl, rfl⟩) | (go_at_call 41; refine (div_any a b _).mono ?_; rw [H4.out.1, H4.out.2]; rintro e w4 ⟨rfl, hb4⟩) | (go_at_call 42; refine (rdiv_any a b _).mono ?_; rw [H4.out.1, H4.out.2]; rintro e w2 ⟨rfl, rfl⟩) | (go_at_call 26; refine (sqrt_all a _).mono ?_; rw [H5.out.1, H5.out.2]; rintro e w2 ⟨rfl, rfl⟩) | (go_at_call 43; refine (rsqrt_all a _).mono ?_; rw [H5.out.1, H5.out.2]; rintro e w2 ⟨rfl, rfl⟩))
  go_ret
  exact ⟨rfl, below_trans2 (below_trans2 hb1 hb3) hb4⟩

end Go.Proofs.Ytijohedhbbddjaa
