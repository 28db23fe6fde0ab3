/- Texts of this claim, part 9: contracts of the functions that the law reaches. -/
import Derived.Test.YtijohedhbbddjaaZ6
import Derived.Test.YtijohedhbbddjaaZ7
namespace Go.Proofs.Ytijohedhbbddjaa
open Go.RowKit

def isqrt : Nat → Nat
  | 0 => 0
  | n + 1 => if (isqrt n + 1) * (isqrt n + 1) ≤ n + 1 then isqrt n + 1 else isqrt n
theorem isqrt_spec (n : Nat) : isqrt n * isqrt n ≤ n ∧ n < (isqrt n + 1) * (isqrt n + 1) := by
  induction n with
  | zero => simp [isqrt]
  | succ n ih =>
    unfold isqrt
    split
    · refine ⟨by assumption, ?_⟩
      have : (isqrt n + 1) * (isqrt n + 1) < (isqrt n + 1 + 1) * (isqrt n + 1 + 1) := Nat.mul_lt_mul_of_lt_of_lt (by omega) (by omega)
      omega
    · omega
def sqrtQ (a : Int) : Int := if cl a < 0 then 0 else (isqrt (cl a * 16777216).toNat : Nat)
def sqrtO (a : Int) : Bool := decide (cl a < 0) || clo a
theorem isRt_isqrt {N : Int} (h : 0 ≤ N) : IsRt N (isqrt N.toNat : Nat) := by
  obtain ⟨h1, h2⟩ := isqrt_spec N.toNat
  refine ⟨by omega, ?_, ?_⟩
  · have : ((isqrt N.toNat * isqrt N.toNat : Nat) : Int) ≤ (N.toNat : Int) := by exact_mod_cast h1
    rw [Int.toNat_of_nonneg h] at this
    push_cast at this
    exact this
  · have : (N.toNat : Int) < (((isqrt N.toNat + 1) * (isqrt N.toNat + 1) : Nat) : Int) := by exact_mod_cast h2
    rw [Int.toNat_of_nonneg h] at this
    push_cast at this
    exact this
theorem isRt_eq {N r s : Int} (hr : IsRt N r) (hs : IsRt N s) : r = s := Int.le_antisymm (rt_mono (Int.le_refl _) hr hs) (rt_mono (Int.le_refl _) hs hr)
theorem sqrtQ_eq {a r : Int} (h0 : 0 ≤ cl a) (h : IsRt (cl a * 16777216) r) : r = sqrtQ a := by
  unfold sqrtQ
  rw [if_neg (by omega)]
  exact isRt_eq h (isRt_isqrt (by omega))
theorem sqrtQ_bd (a : Int) : 0 ≤ sqrtQ a ∧ sqrtQ a < 34359738368 := by
  unfold sqrtQ
  split
  · omega
  · have hb := cl_bd a
    obtain ⟨h1, h2⟩ := isqrt_spec (cl a * 16777216).toNat
    refine ⟨by omega, ?_⟩
    generalize isqrt (cl a * 16777216).toNat = k at *
    rcases (by omega : k < 34359738368 ∨ 34359738368 ≤ k) with h | h
    · omega
    · have := Nat.mul_le_mul h h
      omega
theorem sqrt_all (a : Int) (w : World) : Calls Try.prog 26 #[.int .i64 a] w fun e w' => e = .returned (.tuple #[.int .i64 (sqrtQ a), .bool (sqrtO a)]) ∧ w = w' :=
  (sqrt_any a w).mono fun e w' ⟨hw, he⟩ => by
    refine ⟨?_, hw⟩
    rcases he with ⟨h, rfl⟩ | ⟨h, r, rfl, hr⟩
    · exact ret2 (by unfold sqrtQ; rw [if_pos h]) (by simp [sqrtO, h])
    · exact ret2 (sqrtQ_eq h hr) (by unfold sqrtO; rw [decide_eq_false (by omega), Bool.false_or])
theorem rsqrt_all (a : Int) (w : World) : Calls Try.prog 43 #[.int .i64 a] w fun e w' => e = .returned (.tuple #[.int .i64 (sqrtQ a), .bool (sqrtO a)]) ∧ w = w' :=
  (rsqrt_any a w).mono fun e w' ⟨hw, he⟩ => by
    refine ⟨?_, hw⟩
    rcases he with ⟨h, rfl⟩ | ⟨h, r, rfl, hr⟩
    · exact ret2 (by unfold sqrtQ; rw [if_pos h]) (by simp [sqrtO, h])
    · exact ret2 (sqrtQ_eq h hr) (by unfold sqrtO; rw [decide_eq_false (by omega), Bool.false_or])

end Go.Proofs.Ytijohedhbbddjaa

namespace Go.Proofs.Ytijohedhbbddjaa
open Go.RowKit

/-- From w to w' of what was there block fb alone may have turned. -/
structure But (fb : Nat) (w w' : World) : Prop where
  os : w'.os = w.os
  tape : w'.tape = w.tape
  output : w'.output = w.output
  size : w.heap.size ≤ w'.heap.size
  block : ∀ k, k < w.heap.size → k ≠ fb → w'.heap[k]? = w.heap[k]?
theorem But.refl (fb : Nat) (w : World) : But fb w w := ⟨rfl, rfl, rfl, Nat.le_refl _, fun _ _ _ => rfl⟩
theorem But.trans {fb : Nat} {a b c : World} (h : But fb a b) (k : But fb b c) : But fb a c :=
  ⟨k.os.trans h.os, k.tape.trans h.tape, k.output.trans h.output, Nat.le_trans h.size k.size, fun i hi hn => (k.block i (Nat.lt_of_lt_of_le hi h.size) hn).trans (h.block i hi hn)⟩
theorem But.of_below {fb : Nat} {w w' : World} (h : Below w.heap.size w w') : But fb w w' := ⟨h.os, h.tape, h.output, h.size, fun k hk _ => h.block k hk⟩
theorem But.drew {fb : Nat} {a w : World} (h : But fb a w) : But fb a w.drew := ⟨h.os, h.tape, h.output, h.size, h.block⟩
theorem but_drew (fb : Nat) (w : World) : But fb w w.drew := (But.refl fb w).drew
theorem But.set {fb : Nat} (w : World) (i : Nat) (x : Value) : But fb w (w.setCell ⟨fb, i, none⟩ x) := ⟨rfl, rfl, rfl, by simp [World.setCell], fun k _ hn => Below.heap_setCell _ _ _ _ hn⟩
theorem But.alloc {fb : Nat} {a w : World} (h : But fb a w) (o : Obj) : But fb a (w.alloc o) := h.trans (But.of_below (below1 w o))
theorem But.below {fb B : Nat} {w w' : World} (h : But fb w w') (hB : B ≤ fb) (hs : B ≤ w.heap.size) : Below B w w' := ⟨h.os, h.tape, h.output, h.size, fun k hk => h.block k (by omega) (by omega)⟩
theorem But.row {fb g : Nat} {w w' : World} {o : Obj} (h : But fb w w') (hg : w.heap[g]? = some o) (hn : g ≠ fb) : w'.heap[g]? = some o := by rw [h.block g (lt_of_block hg) hn]; exact hg

/-- A flag in block fb. -/
def Fl (w : World) (fb : Nat) (b : Bool) : Prop := w.heap[fb]? = some (.cells #[.bool b] 113 (0, 0))
theorem Fl.cell {w : World} {fb : Nat} {b : Bool} (h : Fl w fb b) : w.cell? ⟨fb, 0, none⟩ = some (.bool b) := by rw [cell_of_row _ _ _ _ _ _ h]; rfl
theorem Fl.frozen {w : World} {fb : Nat} {b : Bool} (h : Fl w fb b) : w.frozen? ⟨fb, 0, none⟩ = false := frozen_of_row _ _ 0 _ _ h
theorem Fl.set {w : World} {fb : Nat} {b : Bool} (h : Fl w fb b) (c : Bool) : Fl (w.setCell ⟨fb, 0, none⟩ (.bool c)) fb c := heap_setCell_same _ _ 0 _ _ _ h
theorem Fl.later {w w' : World} {fb : Nat} {b : Bool} (h : Fl w fb b) (hb : Below w.heap.size w w') : Fl w' fb b := block_later h hb

/-- What a call over a flag does: it answers a number, and turns the flag. -/
def Flags (fb : Nat) (w : World) (q : Int) (b : Bool) (e : Ending) (w' : World) : Prop := e = .returned (.int .i64 q) ∧ Fl w' fb b ∧ But fb w w'

set_option maxHeartbeats 400000 in
theorem one_any (w : World) (fb : Nat) (b odd : Bool) (a : Int) (h : Fl w fb b) :
    Calls Try.prog 96 #[.pointer (some ⟨fb, 0, none⟩), .int .i64 a, .bool odd] w (Flags fb w a (b || odd)) := by
  have hc := h.cell
  have hf := h.frozen
  have H := Lib.hid h
  clear h
  cases b
  all_goals
    go_enter Try.func96, Try.ntmps96
    go_wp2
    go_ret
    exact ⟨rfl, H.out.set _, But.set _ _ _⟩

set_option maxHeartbeats 400000 in
theorem less_any (w : World) (fb : Nat) (b : Bool) (a : Int) (h : Fl w fb b) :
    Calls Try.prog 97 #[.pointer (some ⟨fb, 0, none⟩), .int .i64 a] w (Flags fb w (subQ 0 a) (b || subO 0 a)) := by
  obtain ⟨q, hq⟩ : ∃ q, subQ 0 a = q := ⟨_, rfl⟩
  obtain ⟨o, ho⟩ : ∃ o, subO 0 a = o := ⟨_, rfl⟩
  have hs := sub_any 0 a w
  rw [hq, ho] at hs ⊢
  have H := Lib.hid h
  clear h hq ho
  go_enter Try.func97, Try.ntmps97
  go_wp2_with (first | (go_at_call 39; refine hs.mono ?_; rintro e w' ⟨rfl, rfl⟩) | (go_at_call 96; refine (one_any _ fb b o q H.out).mono ?_; rintro e w1 ⟨rfl, hf1, hb1⟩))
  go_ret
  exact ⟨rfl, hf1, hb1⟩

def sum4 (a x y z : Int) : Int := addQ (addQ (addQ a x) y) z
def sum4O (a x y z : Int) : Bool := addO a x || addO (addQ a x) y || addO (addQ (addQ a x) y) z

set_option maxRecDepth 100000 in
set_option maxHeartbeats 1000000 in
theorem sum_any (w : World) (fb g : Nat) (b : Bool) (a x y z : Int) (h : Fl w fb b) (hg : w.heap[g]? = some (.cells #[.int .i64 x, .int .i64 y, .int .i64 z] 25 (0, 0))) (hn : g ≠ fb) :
    Calls Try.prog 99 #[.pointer (some ⟨fb, 0, none⟩), .int .i64 a, .slice (some ⟨g, 0, none⟩) 3 3] w (Flags fb w (sum4 a x y z) (b || sum4O a x y z)) := by
  unfold sum4 sum4O
  obtain ⟨q1, hq1⟩ : ∃ q, addQ a x = q := ⟨_, rfl⟩
  obtain ⟨o1, ho1⟩ : ∃ q, addO a x = q := ⟨_, rfl⟩
  have H1 := Lib.hid (And.intro hq1 ho1)
  rw [hq1, ho1]
  clear hq1 ho1
  obtain ⟨q2, hq2⟩ : ∃ q, addQ q1 y = q := ⟨_, rfl⟩
  obtain ⟨o2, ho2⟩ : ∃ q, addO q1 y = q := ⟨_, rfl⟩
  have H2 := Lib.hid (And.intro hq2 ho2)
  rw [hq2, ho2]
  clear hq2 ho2
  obtain ⟨q3, hq3⟩ : ∃ q, addQ q2 z = q := ⟨_, rfl⟩
  obtain ⟨o3, ho3⟩ : ∃ q, addO q2 z = q := ⟨_, rfl⟩
  have H3 := Lib.hid (And.intro hq3 ho3)
  rw [hq3, ho3]
  clear hq3 ho3
  have HG := Lib.hid hg
  have HF := Lib.hid h
  have c0 : w.cell? ⟨g, 0, none⟩ = some (.int .i64 x) := by rw [cell_of_row _ _ _ _ _ _ hg]; rfl
  clear h hg
  go_enter Try.func99, Try.ntmps99
  go_wp2_with fail
  refine wp_loop_rounds 4 ?_
  rw [rounds_succ]
  go_wp2_with (first | (go_at_call 24; refine (add_any a x _).mono ?_; rw [H1.out.1, H1.out.2]; rintro e w' ⟨rfl, rfl⟩) | (go_at_call 96; refine (one_any _ fb b o1 q1 HF.out).mono ?_; rintro e w1 ⟨rfl, hf1, hb1⟩; have F1 := Lib.hid hf1; have B1 := Lib.hid hb1; clear hf1 hb1))
  have hg1 := B1.out.row HG.out hn
  have c1 : w1.cell? ⟨g, 1, none⟩ = some (.int .i64 y) := by rw [cell_of_row _ _ _ _ _ _ hg1]; rfl
  clear c0 hg1
  rw [rounds_succ]
  go_wp2_with (first | (go_at_call 24; refine (add_any q1 y _).mono ?_; rw [H2.out.1, H2.out.2]; rintro e w' ⟨rfl, rfl⟩) | (go_at_call 96; refine (one_any _ fb (b || o1) o2 q2 F1.out).mono ?_; rintro e w2 ⟨rfl, hf2, hb2⟩; have F2 := Lib.hid hf2; have B2 := Lib.hid (B1.out.trans hb2); clear hf2 hb2))
  have hg2 := B2.out.row HG.out hn
  have c2 : w2.cell? ⟨g, 2, none⟩ = some (.int .i64 z) := by rw [cell_of_row _ _ _ _ _ _ hg2]; rfl
  clear c1 hg2
  rw [rounds_succ]
  go_wp2_with (first | (go_at_call 24; refine (add_any q2 z _).mono ?_; rw [H3.out.1, H3.out.2]; rintro e w' ⟨rfl, rfl⟩) | (go_at_call 96; refine (one_any _ fb (b || o1 || o2) o3 q3 F2.out).mono ?_; rintro e w3 ⟨rfl, hf3, hb3⟩; have F3 := Lib.hid hf3; have B3 := Lib.hid (B2.out.trans hb3); clear hf3 hb3))
  clear c2
  rw [rounds_succ]
  go_wp2_with fail
  go_ret
  exact ⟨rfl, by have := F3.out; simpa [Bool.or_assoc] using this, B3.out⟩

end Go.Proofs.Ytijohedhbbddjaa
