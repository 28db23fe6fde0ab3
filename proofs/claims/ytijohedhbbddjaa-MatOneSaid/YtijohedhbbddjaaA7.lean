/- The walks of layer 3 (mat): Right, and slices.IndexFunc, ContainsFunc at numbers. -/
import Derived.Test.YtijohedhbbddjaaA6
namespace Go.Proofs.Ytijohedhbbddjaa
open Go.RowKit

/-- What a predicate tells of a number. -/
def PredQ (f : FuncId) (caps : Array Value) (w0 : World) (p : Int → Bool) : Prop :=
  ∀ (x : Int) (w : World), Below w0.heap.size w0 w → Calls Try.prog f (#[.int .i64 x] ++ caps) w fun e w' => e = .returned (.bool (p x)) ∧ Below w.heap.size w w'

theorem any_take_succ {p : Int → Bool} {xs : List Int} {k : Nat} (hk : k < xs.length) : (xs.take (k + 1)).any p = ((xs.take k).any p || p xs[k]) := by
  rw [List.take_succ_eq_append_getElem hk, List.any_append]; simp

theorem qs_cell {w : World} {ao : Option Addr} {cap : Nat} {xs : List Int} (h : QS w (.slice ao xs.length cap) xs) {k : Nat} (hk : k < xs.length) : ∃ b off, ao = some ⟨b, off, none⟩ ∧ w.cell? ⟨b, off + k, none⟩ = some (.int .i64 xs[k]) := by
  obtain ⟨b, off, c, he, hc⟩ := h.cell hk
  cases he
  exact ⟨b, off, rfl, hc⟩

set_option maxHeartbeats 400000 in
theorem indexQ_any (f : FuncId) (he : Enters f) (caps : Array Value) (w : World) (v : Value) (xs : List Int) (p : Int → Bool) (h : QS w v xs) (hl : xs.length ≤ 9223372036854775807) (hp : PredQ f caps w p) :
    Calls Try.prog 116 #[v, .func (.func f) #[] caps] w fun e w' => ∃ n : Int, e = .returned (.int .i64 n) ∧ decide (n ≥ 0) = xs.any p ∧ Below w.heap.size w w' := by
  obtain ⟨ao, cap, hv, -⟩ := id h
  subst hv
  have H := Lib.hid h
  have HP := Lib.hid hp
  clear h hp
  go_enter Try.func116, Try.ntmps116
  go_wp2_with fail
  go_loopg [8] xs.length (fun n kv wr => ∃ k : Nat, k ≤ xs.length ∧ n = xs.length - k ∧ kv = .int .i64 k ∧ (xs.take k).any p = false ∧ Below w.heap.size w wr)
  case atStart => exact ⟨0, by omega, by omega, rfl, by simp, Below.refl _ _⟩
  case round =>
    obtain ⟨k, hk, rfl, rfl, ha, hb⟩ := hrel
    have HA := Lib.hid ha
    have HB := Lib.hid hb
    clear ha hb
    by_cases hlt : k < xs.length
    · obtain ⟨b, off, rfl, hc⟩ := qs_cell H.out hlt
      have hc := cell_later HB.out hc
      obtain ⟨x, hx⟩ : ∃ x, xs[k] = x := ⟨_, rfl⟩
      have HX := Lib.hid hx
      rw [hx] at hc
      clear hx
      obtain ⟨t, ht⟩ : ∃ t, p x = t := ⟨_, rfl⟩
      have HT := Lib.hid ht
      have hcall := HP.out x _ HB.out
      rw [ht] at hcall
      have HC := Lib.hid hcall
      clear ht hcall
      go_wp2_with (first | (refine wpList_call_value rfl (.tmp 11) _ _ rfl f caps rfl he _ rfl ?_; refine HC.out.mono ?_; rintro e w1 ⟨rfl, hb1⟩))
      · go_ret
        refine ⟨k, rfl, ?_, below_trans2 HB.out (by assumption)⟩
        have h1 : t = true := by assumption
        have : xs.any p = true := List.any_eq_true.2 ⟨xs[k], List.getElem_mem _, by rw [HX.out, HT.out, h1]⟩
        rw [this]; simp
      · have h1 : t = false := by assumption
        go_roundg (xs.length - (k + 1))
        case measure => omega
        case rel => exact ⟨k + 1, by omega, rfl, by go_num, by rw [any_take_succ hlt, HA.out, HX.out, HT.out, h1]; rfl, below_trans2 HB.out (by assumption)⟩
    · have hkl : k = xs.length := by omega
      subst hkl
      go_wp2_with fail
      go_ret
      refine ⟨-1, rfl, ?_, HB.out⟩
      have := HA.out
      rw [List.take_length] at this
      rw [this]; simp

set_option maxHeartbeats 400000 in
theorem containsQ_any (f : FuncId) (he : Enters f) (caps : Array Value) (w : World) (v : Value) (xs : List Int) (p : Int → Bool) (h : QS w v xs) (hl : xs.length ≤ 9223372036854775807) (hp : PredQ f caps w p) :
    Calls Try.prog 89 #[v, .func (.func f) #[] caps] w fun e w' => e = .returned (.bool (xs.any p)) ∧ Below w.heap.size w w' := by
  have hi := indexQ_any f he caps w v xs p h hl hp
  go_enter Try.func89, Try.ntmps89
  go_wp2_with (first | (refine hi.mono ?_; rintro e w1 ⟨n, rfl, hn, hb⟩; have hn := Lib.hid hn))
  go_ret
  exact ⟨rfl, by assumption⟩

theorem enters_right1 : Enters 88 := enters_of Try.func88 (by kernel_rfl) (by kernel_rfl)

set_option maxHeartbeats 400000 in
theorem right1_any (x : Int) (w : World) :
    Calls Try.prog 88 #[.int .i64 x] w fun e w' => e = .returned (.bool (clo x)) ∧ w = w' := by
  go_enter Try.func88, Try.ntmps88
  go_wp2
  all_goals
    go_ret
    refine ⟨retB ?_, rfl⟩
    rw [Bool.eq_iff_iff]; simp [clo] <;> omega

theorem pred_right (w : World) : PredQ 88 #[] w clo := fun x wx _ => (right1_any x wx).mono fun _ _ ⟨he, hw⟩ => ⟨he, hw ▸ Below.refl _ _⟩

def rightB (r c : Int) (xs : List Int) : Bool := decide (1 ≤ r ∧ r ≤ 8 ∧ 1 ≤ c ∧ c ≤ 8 ∧ (xs.length : Int) = r * c) && !xs.any clo

set_option maxRecDepth 100000 in
set_option maxHeartbeats 1000000 in
theorem right_any (w : World) (r c : Int) (v : Value) (xs : List Int) (h : QS w v xs) (hl : xs.length ≤ 9223372036854775807) :
    Calls Try.prog 32 #[.agg #[.int .i64 r, .int .i64 c, v]] w fun e w' => e = .returned (.bool (rightB r c xs)) ∧ Below w.heap.size w w' := by
  obtain ⟨ao, cap, hv, -⟩ := id h
  subst hv
  have H := Lib.hid h
  clear h
  obtain ⟨m, hm⟩ : ∃ m, r * c = m := ⟨_, rfl⟩
  have HM := Lib.hid hm
  have hbd : 1 ≤ r → r ≤ 8 → 1 ≤ c → c ≤ 8 → 0 ≤ m ∧ m ≤ 64 := by
    intro h1 h2 h3 h4
    have := mul_bd (a := r) (b := c) (m := 8) (n := 8) (by omega) h2 (by omega) h4
    rw [hm] at this; exact this
  have e7 : ∀ x y : Int, (x == y) = decide (x = y) := fun _ _ => rfl
  have e8 : ∀ x : Bool, (!x) = true ↔ x = false := by simp
  by_cases hall : 1 ≤ r ∧ r ≤ 8 ∧ 1 ≤ c ∧ c ≤ 8
  · obtain ⟨h1, h2, h3, h4⟩ := hall
    have hb := hbd h1 h2 h3 h4
    clear hbd
    go_enter Try.func32, Try.ntmps32
    go_wp2_with (first | (go_at_call 89; refine (containsQ_any 88 enters_right1 #[] _ _ xs clo (H.out.later (below1 _ _)) hl (pred_right _)).mono ?_; rintro e w1 ⟨rfl, hb1⟩))
    · go_ret
      have h5 : (xs.length : Int) = m := by assumption
      exact ⟨retB (by unfold rightB; rw [HM.out, decide_eq_true ⟨h1, h2, h3, h4, h5⟩, Bool.true_and]), below_trans2 (below1 _ _) hb1⟩
    · go_ret
      have h5 : ¬ (xs.length : Int) = m := by assumption
      exact ⟨retB (by unfold rightB; rw [HM.out, decide_eq_false (fun h => h5 h.2.2.2.2), Bool.false_and]), below1 _ _⟩
  · clear hbd
    have HN := Lib.hid hall
    clear hall
    go_enter Try.func32, Try.ntmps32
    go_wp2_with fail
    all_goals first | exact (HN.out ⟨by assumption, by assumption, by assumption, by assumption⟩).elim | skip
    all_goals
      go_ret
      exact ⟨retB (by unfold rightB; rw [decide_eq_false (fun h => HN.out ⟨h.1, h.2.1, h.2.2.1, h.2.2.2.1⟩), Bool.false_and]), below1 _ _⟩

end Go.Proofs.Ytijohedhbbddjaa
