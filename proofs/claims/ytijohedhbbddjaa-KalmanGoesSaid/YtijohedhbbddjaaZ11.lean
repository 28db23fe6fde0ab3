/- Texts of this claim, part 12: contracts of the functions that the law reaches. -/
import Derived.Test.YtijohedhbbddjaaZ10
import Derived.Deep.QuietTactic
import Derived.BigQuiet
namespace Go.Proofs.Ytijohedhbbddjaa
open Go.RowKit

set_option maxRecDepth 100000 in
set_option maxHeartbeats 1000000 in
theorem rright_any (w : World) (r c : Int) (v : Value) (xs : List Int) (h : QS w v xs) (hl : xs.length ≤ 9223372036854775807) :
    Calls Try.prog 12 #[.agg #[.int .i64 r, .int .i64 c, v]] w fun e w' => e = .returned (.bool (rightB r c xs)) ∧ Below w.heap.size w w' := by
  obtain ⟨ao, cap, hv, -⟩ := id h
  subst hv
  have H := Lib.hid h
  clear h
  obtain ⟨m, hm⟩ : ∃ m, r * c = m := ⟨_, rfl⟩
  have HM := Lib.hid hm
  have hbd : 1 ≤ r → r ≤ 8 → 1 ≤ c → c ≤ 8 → 0 ≤ m ∧ m ≤ 64 := by
    intro h1 h2 h3 h4
    have := mul_bd (a := r) (b := c) (m := 8) (n := 8) (by omega) h2 (by omega) h4
    rw [hm] at this; exact this
  have e7 : ∀ x y : Int, (x == y) = decide (x = y) := fun _ _ => rfl
  by_cases hall : 1 ≤ r ∧ r ≤ 8 ∧ 1 ≤ c ∧ c ≤ 8 ∧ (xs.length : Int) = m
  · obtain ⟨h1, h2, h3, h4, h5⟩ := hall
    have hb := hbd h1 h2 h3 h4
    have HA := Lib.hid (And.intro h1 (And.intro h2 (And.intro h3 (And.intro h4 h5))))
    have h5' : ((xs.length : Int) != m) = false := by simpa using h5
    clear hbd h5
    have hln : xs.length ≤ 64 := by have := HA.out.2.2.2.2; omega
    go_enter Try.func12, Try.ntmps12
    go_wp2_with fail
    obtain ⟨W1, hW1⟩ : ∃ W1, W1 = w.alloc (.cells #[.int .i64 r, .int .i64 c, .slice ao xs.length cap] 24) := ⟨_, rfl⟩
    rw [← hW1]
    have r0 : W1.cell? ⟨w.heap.size, 0, none⟩ = some (.int .i64 r) := by rw [hW1]; simp [go_sem]
    have r1 : W1.cell? ⟨w.heap.size, 1, none⟩ = some (.int .i64 c) := by rw [hW1]; simp [go_sem]
    have r2 : W1.cell? ⟨w.heap.size, 2, none⟩ = some (.slice ao xs.length cap) := by rw [hW1]; simp [go_sem]
    have HQ : Hid (QS W1 (.slice ao xs.length cap) xs) := by rw [hW1]; exact H.out.later (below1 _ _)
    have HB : Hid (Below w.heap.size w W1) := by rw [hW1]; exact below1 _ _
    clear hW1
    go_loopg [3] xs.length (fun n kv wr => W1 = wr ∧ ∃ k : Nat, k ≤ xs.length ∧ n = xs.length - k ∧ kv = .int .i64 k ∧ (xs.take k).any clo = false)
    case atStart => exact ⟨rfl, 0, by omega, by omega, rfl, by simp⟩
    case round =>
      obtain ⟨rfl, k, hk, rfl, rfl, ha⟩ := hrel
      have HN := Lib.hid ha
      clear ha
      by_cases hlt : k < xs.length
      · obtain ⟨b, off, rfl, hc⟩ := qs_cell HQ.out hlt
        obtain ⟨x, hx⟩ : ∃ x, xs[k] = x := ⟨_, rfl⟩
        have HX := Lib.hid hx
        rw [hx] at hc
        obtain ⟨t, ht⟩ : ∃ t, clo x = t := ⟨_, rfl⟩
        have HT := Lib.hid ht
        have hin := rin_any x W1
        rw [ht] at hin
        clear hx ht
        go_wp2_with (first | (go_at_call 68; refine hin.mono ?_; rintro e w1 ⟨rfl, rfl⟩))
        · go_ret
          have h6 : t = true := by assumption
          have : xs.any clo = true := List.any_eq_true.2 ⟨xs[k], List.getElem_mem _, by rw [HX.out, HT.out, h6]⟩
          exact ⟨retB (by unfold rightB; rw [this]; simp), HB.out⟩
        · have h6 : t = false := by assumption
          go_roundg (xs.length - (k + 1))
          case measure => omega
          case rel => exact ⟨rfl, k + 1, by omega, rfl, by go_num, by rw [any_take_succ hlt, HN.out, HX.out, HT.out, h6]; rfl⟩
      · have hkl : k = xs.length := by omega
        subst hkl
        go_wp2_with fail
        go_ret
        have := HN.out
        rw [List.take_length] at this
        refine ⟨retB ?_, HB.out⟩
        unfold rightB
        rw [this, HM.out, decide_eq_true HA.out]
        rfl
  · have HN := Lib.hid hall
    clear hall
    go_enter Try.func12, Try.ntmps12
    go_wp2_with fail
    all_goals first | exact (HN.out ⟨by omega, by omega, by omega, by omega, by simpa using ‹((xs.length : Int) != m) = false›⟩).elim | skip
    all_goals
      go_ret
      exact ⟨retB (by unfold rightB; rw [HM.out, decide_eq_false HN.out, Bool.false_and]), below1 _ _⟩

def sameB (r c : Int) (xs : List Int) (r' c' : Int) (ys : List Int) : Bool := decide (r = r' ∧ c = c' ∧ xs = ys)

set_option maxRecDepth 100000 in
set_option maxHeartbeats 1000000 in
theorem rsame_any (w : World) (r c r' c' : Int) (v v' : Value) (xs ys : List Int) (h : QS w v xs) (h' : QS w v' ys) (hl : xs.length ≤ 9223372036854775807) (hl' : ys.length ≤ 9223372036854775807) :
    Calls Try.prog 15 #[.agg #[.int .i64 r, .int .i64 c, v], .agg #[.int .i64 r', .int .i64 c', v']] w fun e w' => e = .returned (.bool (sameB r c xs r' c' ys)) ∧ Below w.heap.size w w' := by
  obtain ⟨ao, cap, hv, -⟩ := id h
  obtain ⟨bo, cap', hv', -⟩ := id h'
  subst hv
  subst hv'
  have H := Lib.hid h
  have H' := Lib.hid h'
  clear h h'
  by_cases hall : r = r' ∧ c = c' ∧ (xs.length : Int) = ys.length
  · obtain ⟨rfl, rfl, h3⟩ := hall
    have HL : Hid (xs.length = ys.length) := by show _ = _; omega
    have h3' : ((xs.length : Int) != (ys.length : Int)) = false := by simpa using h3
    clear h3
    go_enter Try.func15, Try.ntmps15
    go_wp2_with fail
    obtain ⟨W1, hW1⟩ : ∃ W1, W1 = (w.alloc (.cells #[.int .i64 r, .int .i64 c, .slice ao xs.length cap] 24)).alloc (.cells #[.int .i64 r, .int .i64 c, .slice bo ys.length cap'] 24) := ⟨_, rfl⟩
    rw [← hW1]
    have r2 : W1.cell? ⟨w.heap.size, 2, none⟩ = some (.slice ao xs.length cap) := by rw [hW1]; simp [go_sem]
    have s2 : W1.cell? ⟨w.heap.size + 1, 2, none⟩ = some (.slice bo ys.length cap') := by rw [hW1]; simp [go_sem]
    have HQ : Hid (QS W1 (.slice ao xs.length cap) xs) := by rw [hW1]; exact H.out.later (below2 _ _ _)
    have HQ' : Hid (QS W1 (.slice bo ys.length cap') ys) := by rw [hW1]; exact H'.out.later (below2 _ _ _)
    have HB : Hid (Below w.heap.size w W1) := by rw [hW1]; exact below2 _ _ _
    clear hW1
    go_loopg [5] xs.length (fun n kv wr => ∃ k : Nat, k ≤ xs.length ∧ n = xs.length - k ∧ kv = .int .i64 k ∧ xs.take k = ys.take k ∧ Below W1.heap.size W1 wr)
    case atStart => exact ⟨0, by omega, by omega, rfl, by simp, Below.refl _ _⟩
    case round =>
      obtain ⟨k, hk, rfl, rfl, ha, hbr⟩ := hrel
      have HN := Lib.hid ha
      have HBR := Lib.hid hbr
      have r2 := cell_later hbr r2
      have s2 := cell_later hbr s2
      clear ha hbr
      by_cases hlt : k < xs.length
      · have hlt' : k < ys.length := by rw [← HL.out]; exact hlt
        obtain ⟨b, off, rfl, hc⟩ := qs_cell HQ.out hlt
        obtain ⟨b', off', rfl, hc'⟩ := qs_cell HQ'.out hlt'
        have hc := cell_later HBR.out hc
        have hc' := cell_later HBR.out hc'
        obtain ⟨x, hx⟩ : ∃ x, xs[k] = x := ⟨_, rfl⟩
        obtain ⟨y, hy⟩ : ∃ y, ys[k] = y := ⟨_, rfl⟩
        have HX := Lib.hid hx
        have HY := Lib.hid hy
        rw [hx] at hc
        rw [hy] at hc'
        clear hx hy
        have hk0 : (0 : Int) ≤ (k : Int) := by omega
        have hk1 : (k : Int) < (xs.length : Int) := by omega
        have hk2 : (k : Int) < (ys.length : Int) := by omega
        go_wp2_with fail
        go_quiet (fail)
        go_wp2_with fail
        · go_ret
          have h6 : ¬ x = y := by simpa using ‹(x != y) = true›
          refine ⟨retB ?_, below_drewN' (below_trans2 HB.out HBR.out) _⟩
          unfold sameB
          rw [decide_eq_false]
          rintro ⟨-, -, rfl⟩
          exact h6 (HX.out.symm.trans HY.out)
        · have h6 : x = y := by simpa using ‹(x != y) = false›
          go_roundg (xs.length - (k + 1))
          case measure => omega
          case rel => exact ⟨k + 1, by omega, rfl, by go_num, by rw [List.take_succ_eq_append_getElem hlt, List.take_succ_eq_append_getElem hlt', HN.out, HX.out, HY.out, h6], below_drewN' HBR.out _⟩
      · have hkl : k = xs.length := by omega
        subst hkl
        go_wp2_with fail
        go_ret
        refine ⟨retB ?_, below_trans2 HB.out HBR.out⟩
        have := HN.out
        rw [List.take_length, HL.out, List.take_length] at this
        unfold sameB
        rw [decide_eq_true ⟨rfl, rfl, this⟩]
  · have HN := Lib.hid hall
    clear hall
    go_enter Try.func15, Try.ntmps15
    go_wp2_with fail
    all_goals first | exact (HN.out ⟨by assumption, by assumption, by simpa using ‹((xs.length : Int) != (ys.length : Int)) = false›⟩).elim | skip
    all_goals
      go_ret
      refine ⟨retB ?_, below2 _ _ _⟩
      unfold sameB
      rw [decide_eq_false]
      rintro ⟨h1, h2, h3⟩
      exact HN.out ⟨h1, h2, by rw [h3]⟩

end Go.Proofs.Ytijohedhbbddjaa
