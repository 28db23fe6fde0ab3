/- Texts of this claim, part 21: contracts of the functions that the law reaches. -/
import Derived.Test.YtijohedhbbddjaaZ19
import Derived.Laws.Tables
import Derived.Laws.CopyOwn
namespace Go.Proofs.Ytijohedhbbddjaa
open Go.RowKit

def termsA : Array Value := #[.int .i64 0, .int .i64 0, .int .i64 1, .int .i64 1, .int .i64 1, .int .i64 (-1), .int .i64 2, .int .i64 2, .int .i64 (-1), .int .i64 3, .int .i64 3, .int .i64 (-1), .int .i64 0, .int .i64 1, .int .i64 1, .int .i64 1, .int .i64 0, .int .i64 1, .int .i64 2, .int .i64 3, .int .i64 1, .int .i64 3, .int .i64 2, .int .i64 (-1), .int .i64 0, .int .i64 2, .int .i64 1, .int .i64 1, .int .i64 3, .int .i64 (-1), .int .i64 2, .int .i64 0, .int .i64 1, .int .i64 3, .int .i64 1, .int .i64 1, .int .i64 0, .int .i64 3, .int .i64 1, .int .i64 1, .int .i64 2, .int .i64 1, .int .i64 2, .int .i64 1, .int .i64 (-1), .int .i64 3, .int .i64 0, .int .i64 1]

set_option maxRecDepth 100000 in
set_option maxHeartbeats 1000000 in
theorem terms_any (w : World) : Calls Try.prog 98 #[] w fun e w' => e = .returned (.agg termsA) ∧ Below w.heap.size w w' := by
  go_enter Try.func98, Try.ntmps98
  go_wp2_with (refine wpList_store_row rfl 119 (.tmp 0) (.tmp 21) rfl w.heap.size termsA rfl rfl 119 _ (heap_at _ _ _ rfl) (by kernel_rfl) (by kernel_rfl) (by kernel_rfl) ?_)
  refine bodyPost_ret (results_row rfl _ _ w.heap.size 119 termsA (0, 0) _ rfl (setRow_heap _ _ _ _ _ _ (heap_at _ _ _ rfl)) Try.underlying119 rfl (by kernel_rfl)) rfl ⟨rfl, below_setRow (below1 _ _) (Nat.le_refl _) _⟩

end Go.Proofs.Ytijohedhbbddjaa

namespace Go.Proofs.Ytijohedhbbddjaa
open Go.RowKit

/-- From w to w' of what was there blocks f and o alone may have turned. -/
structure But2 (f o : Nat) (w w' : World) : Prop where
  size : w.heap.size ≤ w'.heap.size
  block : ∀ k, k < w.heap.size → k ≠ f → k ≠ o → w'.heap[k]? = w.heap[k]?
theorem But2.of {f o : Nat} {w w' : World} (h : But f w w') : But2 f o w w' := ⟨h.size, fun k hk hn _ => h.block k hk hn⟩
theorem But2.set {f o : Nat} {w w' : World} (h : But2 f o w w') (i : Nat) (x : Value) : But2 f o w (w'.setCell ⟨o, i, none⟩ x) :=
  ⟨by simpa [World.setCell] using h.size, fun k hk hn hm => (Below.heap_setCell _ _ _ _ hm).trans (h.block k hk hn hm)⟩
theorem cells_but2 {w : World} {f o : Nat} {a : Addr} {v : Value} (h : w.cell? a = some v) (hn : a.block ≠ f) (hm : a.block ≠ o) : ∀ w', But2 f o w w' → w'.cell? a = some v := fun w' hb => by
  obtain ⟨ob, ho⟩ : ∃ o, w.heap[a.block]? = some o := by
    cases ho : w.heap[a.block]? with
    | some o => exact ⟨o, rfl⟩
    | none => unfold World.cell? at h; rw [ho] at h; cases h
  have h2 := hb.block _ (lt_of_block ho) hn hm
  rw [← h]
  exact World.cell?_of_block h2

/-- Four numbers. -/
structure Q4 where
  a : Int
  b : Int
  c : Int
  d : Int
def fourQ (x0 y0 : Int) (m0 : Bool) (x1 y1 : Int) (m1 : Bool) (x2 y2 : Int) (m2 : Bool) (x3 y3 : Int) (m3 : Bool) : Int := sum4 (trmQ x0 y0 m0) (trmQ x1 y1 m1) (trmQ x2 y2 m2) (trmQ x3 y3 m3)
def fourO (x0 y0 : Int) (m0 : Bool) (x1 y1 : Int) (m1 : Bool) (x2 y2 : Int) (m2 : Bool) (x3 y3 : Int) (m3 : Bool) : Bool :=
  trmO x0 y0 m0 || trmO x1 y1 m1 || trmO x2 y2 m2 || trmO x3 y3 m3 || sum4O (trmQ x0 y0 m0) (trmQ x1 y1 m1) (trmQ x2 y2 m2) (trmQ x3 y3 m3)
def qmul (p q : Q4) : Q4 := ⟨fourQ p.a q.a false p.b q.b true p.c q.c true p.d q.d true, fourQ p.a q.b false p.b q.a false p.c q.d false p.d q.c true, fourQ p.a q.c false p.b q.d true p.c q.a false p.d q.b false, fourQ p.a q.d false p.b q.c false p.c q.b true p.d q.a false⟩
def qmulO (p q : Q4) : Bool := (fourO p.a q.a false p.b q.b true p.c q.c true p.d q.d true) || (fourO p.a q.b false p.b q.a false p.c q.d false p.d q.c true) || (fourO p.a q.c false p.b q.d true p.c q.a false p.d q.b false) || (fourO p.a q.d false p.b q.c false p.c q.b true p.d q.a false)
def row4 (a b c d : Int) : Obj := .cells #[.int .i64 a, .int .i64 b, .int .i64 c, .int .i64 d] 56 (0, 0)
def yUp (a b c d : Int) : Nat → Obj
  | 0 => row4 0 0 0 0
  | 1 => row4 a 0 0 0
  | 2 => row4 a b 0 0
  | 3 => row4 a b c 0
  | _ => row4 a b c d
def bUp (a b c d : Bool) : Nat → Bool
  | 0 => false
  | 1 => a
  | 2 => a || b
  | 3 => a || b || c
  | _ => a || b || c || d
/-- The blocks of a call of Mul. -/
structure InMul (w : World) (n : Nat) (p q : Q4) (b : Bool) (out : Obj) (wr : World) : Prop where
  p : wr.heap[n]? = some (row4 p.a p.b p.c p.d)
  q : wr.heap[n + 1]? = some (row4 q.a q.b q.c q.d)
  r : wr.heap[n + 1 + 1]? = some (row4 0 0 0 0)
  fl : Fl wr (n + 1 + 1 + 1) b
  o : wr.heap[n + 1 + 1 + 1 + 1]? = some out
  below : Below n w wr

theorem InMul.step {w : World} {n : Nat} {p q : Q4} {b b' : Bool} {out out' : Obj} {wr w5 : World} {i : Nat} {y : Value} {cs : Array Value} {t : TypeId} (h : InMul w n p q b out wr) (hk : But (n + 1 + 1 + 1) wr w5) (hf : Fl w5 (n + 1 + 1 + 1) b')
    (ho : out = .cells cs t (0, 0)) (ho' : out' = .cells (cs.setIfInBounds i y) t (0, 0)) : InMul w n p q b' out' (w5.setCell ⟨n + 1 + 1 + 1 + 1, i, none⟩ y) := by
  have h4 := lt_of_block h.o
  have g5 := hk.row h.o (by omega)
  rw [ho] at g5
  refine ⟨?_, ?_, ?_, ?_, ?_, ?_⟩
  · rw [Below.heap_setCell _ _ _ _ (by show n ≠ n + 1 + 1 + 1 + 1; omega)]; exact hk.row h.p (by omega)
  · rw [Below.heap_setCell _ _ _ _ (by show n + 1 ≠ n + 1 + 1 + 1 + 1; omega)]; exact hk.row h.q (by omega)
  · rw [Below.heap_setCell _ _ _ _ (by show n + 1 + 1 ≠ n + 1 + 1 + 1 + 1; omega)]; exact hk.row h.r (by omega)
  · show _ = _
    rw [Below.heap_setCell _ _ _ _ (by show n + 1 + 1 + 1 ≠ n + 1 + 1 + 1 + 1; omega)]; exact hf
  · rw [ho']; exact heap_setCell_same _ _ _ _ _ _ g5
  · exact (h.below.trans (hk.below (by omega) (by omega))).setCell (by show n ≤ n + 1 + 1 + 1 + 1; omega) _

theorem ci0 : (0 : Int) = ((0 : Nat) : Int) := rfl
theorem ci1 : (1 : Int) = ((1 : Nat) : Int) := rfl
theorem ci2 : (2 : Int) = ((2 : Nat) : Int) := rfl
theorem ci3 : (3 : Int) = ((3 : Nat) : Int) := rfl
theorem cl0 : 0 < 4 := by decide
theorem cl1 : 1 < 4 := by decide
theorem cl2 : 2 < 4 := by decide
theorem cl3 : 3 < 4 := by decide
theorem ds1 : decide ((1 : Int) < 0) = false := by decide
theorem dsm : decide ((-1 : Int) < 0) = true := by decide
theorem term_at (w : World) (fb pb qb : Nat) (I J S : Int) (i j : Nat) (b m : Bool) (x y z : Int) (o : Bool) (hI : I = i) (hJ : J = j) (hm : decide (S < 0) = m) (hi : i < 4) (hj : j < 4) (h : Fl w fb b) (hp : w.cell? ⟨pb, i, none⟩ = some (.int .i64 x))
    (hq : w.cell? ⟨qb, j, none⟩ = some (.int .i64 y)) (hpn : pb ≠ fb) (hqn : qb ≠ fb) (hz : trmQ x y m = z ∧ trmO x y m = o) :
    Calls Try.prog 95 #[.agg #[.int .i64 I, .int .i64 J, .int .i64 S], .pointer (some ⟨fb, 0, none⟩), .pointer (some ⟨pb, 0, none⟩), .pointer (some ⟨qb, 0, none⟩)] w (Flags fb w z (b || o)) := by
  subst hI; subst hJ; subst hm
  rw [← hz.1, ← hz.2]
  exact term_any w fb pb qb i j b S x y hi hj h hp hq hpn hqn
theorem heap_store4 (w : World) (g : Nat) (a b c d x y z u : Value) (t : TypeId) (hg : w.heap[g]? = some (.cells #[a, b, c, d] t (0, 0))) :
    ((((w.setCell ⟨g, 0, none⟩ x).setCell ⟨g, 1, none⟩ y).setCell ⟨g, 2, none⟩ z).setCell ⟨g, 3, none⟩ u).heap[g]? = some (.cells #[x, y, z, u] t (0, 0)) := by
  have g1 := heap_setCell_same _ _ 0 _ _ x hg
  have g2 := heap_setCell_same _ _ 1 _ _ y g1
  have g3 := heap_setCell_same _ _ 2 _ _ z g2
  have g4 := heap_setCell_same _ _ 3 _ _ u g3
  exact g4
theorem row4_cell {w : World} {g : Nat} {a b c d : Int} (h : w.heap[g]? = some (row4 a b c d)) : w.cell? ⟨g, 0, none⟩ = some (.int .i64 a) ∧ w.cell? ⟨g, 1, none⟩ = some (.int .i64 b) ∧ w.cell? ⟨g, 2, none⟩ = some (.int .i64 c) ∧ w.cell? ⟨g, 3, none⟩ = some (.int .i64 d) := by
  unfold row4 at h
  exact ⟨by rw [cell_of_row _ _ _ _ _ _ h]; rfl, by rw [cell_of_row _ _ _ _ _ _ h]; rfl, by rw [cell_of_row _ _ _ _ _ _ h]; rfl, by rw [cell_of_row _ _ _ _ _ _ h]; rfl⟩
theorem row4_frozen {w : World} {g : Nat} {a b c d : Int} (h : w.heap[g]? = some (row4 a b c d)) (i : Nat) : w.frozen? ⟨g, i, none⟩ = false := by
  unfold row4 at h
  exact frozen_of_row _ _ i _ _ h

theorem idx0 (w : World) : Sem.run Try.prog (Instr.index 119 (.agg termsA) (.int .i64 0)) w = .ok (.agg #[.int .i64 0, .int .i64 0, .int .i64 1, .int .i64 1, .int .i64 1, .int .i64 (-1), .int .i64 2, .int .i64 2, .int .i64 (-1), .int .i64 3, .int .i64 3, .int .i64 (-1)]) w := by kernel_rfl
theorem idx1 (w : World) : Sem.run Try.prog (Instr.index 119 (.agg termsA) (.int .i64 1)) w = .ok (.agg #[.int .i64 0, .int .i64 1, .int .i64 1, .int .i64 1, .int .i64 0, .int .i64 1, .int .i64 2, .int .i64 3, .int .i64 1, .int .i64 3, .int .i64 2, .int .i64 (-1)]) w := by kernel_rfl
theorem idx2 (w : World) : Sem.run Try.prog (Instr.index 119 (.agg termsA) (.int .i64 2)) w = .ok (.agg #[.int .i64 0, .int .i64 2, .int .i64 1, .int .i64 1, .int .i64 3, .int .i64 (-1), .int .i64 2, .int .i64 0, .int .i64 1, .int .i64 3, .int .i64 1, .int .i64 1]) w := by kernel_rfl
theorem idx3 (w : World) : Sem.run Try.prog (Instr.index 119 (.agg termsA) (.int .i64 3)) w = .ok (.agg #[.int .i64 0, .int .i64 3, .int .i64 1, .int .i64 1, .int .i64 2, .int .i64 1, .int .i64 2, .int .i64 1, .int .i64 (-1), .int .i64 3, .int .i64 0, .int .i64 1]) w := by kernel_rfl

set_option maxRecDepth 100000 in
set_option maxHeartbeats 4000000 in
theorem qmul_any (w : World) (p q : Q4) :
    Calls Try.prog 45 #[.agg #[.int .i64 p.a, .int .i64 p.b, .int .i64 p.c, .int .i64 p.d], .agg #[.int .i64 q.a, .int .i64 q.b, .int .i64 q.c, .int .i64 q.d]] w fun e w' =>
      e = .returned (.tuple #[.agg #[.int .i64 (qmul p q).a, .int .i64 (qmul p q).b, .int .i64 (qmul p q).c, .int .i64 (qmul p q).d], .bool (qmulO p q)]) ∧ Below w.heap.size w w' := by
  obtain ⟨y0, hy0⟩ : ∃ y, fourQ p.a q.a false p.b q.b true p.c q.c true p.d q.d true = y := ⟨_, rfl⟩
  obtain ⟨o0, ho0⟩ : ∃ y, fourO p.a q.a false p.b q.b true p.c q.c true p.d q.d true = y := ⟨_, rfl⟩
  have HY0 := Lib.hid (And.intro hy0 ho0)
  obtain ⟨y1, hy1⟩ : ∃ y, fourQ p.a q.b false p.b q.a false p.c q.d false p.d q.c true = y := ⟨_, rfl⟩
  obtain ⟨o1, ho1⟩ : ∃ y, fourO p.a q.b false p.b q.a false p.c q.d false p.d q.c true = y := ⟨_, rfl⟩
  have HY1 := Lib.hid (And.intro hy1 ho1)
  obtain ⟨y2, hy2⟩ : ∃ y, fourQ p.a q.c false p.b q.d true p.c q.a false p.d q.b false = y := ⟨_, rfl⟩
  obtain ⟨o2, ho2⟩ : ∃ y, fourO p.a q.c false p.b q.d true p.c q.a false p.d q.b false = y := ⟨_, rfl⟩
  have HY2 := Lib.hid (And.intro hy2 ho2)
  obtain ⟨y3, hy3⟩ : ∃ y, fourQ p.a q.d false p.b q.c false p.c q.b true p.d q.a false = y := ⟨_, rfl⟩
  obtain ⟨o3, ho3⟩ : ∃ y, fourO p.a q.d false p.b q.c false p.c q.b true p.d q.a false = y := ⟨_, rfl⟩
  have HY3 := Lib.hid (And.intro hy3 ho3)
  unfold qmul qmulO
  rw [hy0, ho0, hy1, ho1, hy2, ho2, hy3, ho3]
  clear hy0 ho0 hy1 ho1 hy2 ho2 hy3 ho3
  obtain ⟨n, hn⟩ : ∃ n, w.heap.size = n := ⟨_, rfl⟩
  go_enter Try.func45, Try.ntmps45
  go_upto_region 4 with fail
  obtain ⟨W0, hW0⟩ : ∃ W0, W0 = (((((w.alloc (row4 p.a p.b p.c p.d)).alloc (row4 q.a q.b q.c q.d)).alloc (row4 0 0 0 0)).alloc (.cells #[.bool false] 113)).alloc (row4 0 0 0 0)) := ⟨_, rfl⟩
  have hI : Hid (InMul w n p q false (row4 0 0 0 0) W0) := by
    rw [hW0]
    refine (show InMul _ _ _ _ _ _ _ from ⟨?_, ?_, ?_, ?_, ?_, ?_⟩)
    · rw [heap_old _ _ _ (by simp; omega), heap_old _ _ _ (by simp; omega), heap_old _ _ _ (by simp; omega), heap_old _ _ _ (by simp; omega)]; exact heap_at _ _ _ hn.symm
    · rw [heap_old _ _ _ (by simp; omega), heap_old _ _ _ (by simp; omega), heap_old _ _ _ (by simp; omega)]; exact heap_at _ _ _ (by simp; omega)
    · rw [heap_old _ _ _ (by simp; omega), heap_old _ _ _ (by simp; omega)]; exact heap_at _ _ _ (by simp; omega)
    · show _ = _
      rw [heap_old _ _ _ (by simp; omega)]; exact heap_at _ _ _ (by simp; omega)
    · exact heap_at _ _ _ (by simp; omega)
    · rw [← hn]; exact (below4 _ _ _ _ _).alloc (by simp; omega) _
  unfold row4 at hW0
  rw [← hW0]
  clear hW0
  go_upto_region 5 with (go_at_call 98; refine (terms_any _).mono ?_; rintro e w1 ⟨rfl, hb1⟩)
  have hI1 : Hid (InMul w n p q false (row4 0 0 0 0) w1) := by
    have h := hI.out
    exact (show InMul _ _ _ _ _ _ _ from ⟨block_later h.p hb1, block_later h.q hb1, block_later h.r hb1, h.fl.later hb1, block_later h.o hb1, h.below.trans (hb1.mono (by have := lt_of_block h.o; omega))⟩)
  clear hI hb1
  go_loopg [13] 4 (fun k iv wr => ∃ i : Nat, i ≤ 4 ∧ k = 4 - i ∧ iv = .int .i64 i ∧ InMul w n p q (bUp o0 o1 o2 o3 i) (yUp y0 y1 y2 y3 i) wr)
  case atStart => exact ⟨0, by omega, by omega, rfl, hI1.out⟩
  case round =>
    clear hI1
    obtain ⟨i, hi, rfl, rfl, hM⟩ := hrel
    have HM := Lib.hid hM
    have hsz : n + 1 + 1 + 1 + 1 < wr.heap.size := lt_of_block hM.o
    clear hM
    by_cases hlt : i < 4
    · obtain (rfl | rfl | rfl | rfl) : i = 0 ∨ i = 1 ∨ i = 2 ∨ i = 3 := by omega
      · have hix := idx0
        have hc0 : ((0 : Nat) : Int) = 0 := rfl
        go_upto_region 7 with fail
        clear hix
        obtain ⟨W, hW⟩ : ∃ W, W = wr.alloc (.cells #[.int .i64 0, .int .i64 0, .int .i64 1, .int .i64 1, .int .i64 1, .int .i64 (-1), .int .i64 2, .int .i64 2, .int .i64 (-1), .int .i64 3, .int .i64 3, .int .i64 (-1)] 118) := ⟨_, rfl⟩
        rw [← hW]
        have r0 := cells_but2 (f := (n + 1 + 1 + 1)) (o := (n + 1 + 1 + 1 + 1)) (w := W) (a := ⟨wr.heap.size, 0, none⟩) (v := .int .i64 0) (by rw [hW]; simp [go_sem]) (show wr.heap.size ≠ (n + 1 + 1 + 1) by omega) (show wr.heap.size ≠ (n + 1 + 1 + 1 + 1) by omega)
        have r1 := cells_but2 (f := (n + 1 + 1 + 1)) (o := (n + 1 + 1 + 1 + 1)) (w := W) (a := ⟨wr.heap.size, 1, none⟩) (v := .int .i64 0) (by rw [hW]; simp [go_sem]) (show wr.heap.size ≠ (n + 1 + 1 + 1) by omega) (show wr.heap.size ≠ (n + 1 + 1 + 1 + 1) by omega)
        have r2 := cells_but2 (f := (n + 1 + 1 + 1)) (o := (n + 1 + 1 + 1 + 1)) (w := W) (a := ⟨wr.heap.size, 2, none⟩) (v := .int .i64 1) (by rw [hW]; simp [go_sem]) (show wr.heap.size ≠ (n + 1 + 1 + 1) by omega) (show wr.heap.size ≠ (n + 1 + 1 + 1 + 1) by omega)
        have r3 := cells_but2 (f := (n + 1 + 1 + 1)) (o := (n + 1 + 1 + 1 + 1)) (w := W) (a := ⟨wr.heap.size, 3, none⟩) (v := .int .i64 1) (by rw [hW]; simp [go_sem]) (show wr.heap.size ≠ (n + 1 + 1 + 1) by omega) (show wr.heap.size ≠ (n + 1 + 1 + 1 + 1) by omega)
        have r4 := cells_but2 (f := (n + 1 + 1 + 1)) (o := (n + 1 + 1 + 1 + 1)) (w := W) (a := ⟨wr.heap.size, 4, none⟩) (v := .int .i64 1) (by rw [hW]; simp [go_sem]) (show wr.heap.size ≠ (n + 1 + 1 + 1) by omega) (show wr.heap.size ≠ (n + 1 + 1 + 1 + 1) by omega)
        have r5 := cells_but2 (f := (n + 1 + 1 + 1)) (o := (n + 1 + 1 + 1 + 1)) (w := W) (a := ⟨wr.heap.size, 5, none⟩) (v := .int .i64 (-1)) (by rw [hW]; simp [go_sem]) (show wr.heap.size ≠ (n + 1 + 1 + 1) by omega) (show wr.heap.size ≠ (n + 1 + 1 + 1 + 1) by omega)
        have r6 := cells_but2 (f := (n + 1 + 1 + 1)) (o := (n + 1 + 1 + 1 + 1)) (w := W) (a := ⟨wr.heap.size, 6, none⟩) (v := .int .i64 2) (by rw [hW]; simp [go_sem]) (show wr.heap.size ≠ (n + 1 + 1 + 1) by omega) (show wr.heap.size ≠ (n + 1 + 1 + 1 + 1) by omega)
        have r7 := cells_but2 (f := (n + 1 + 1 + 1)) (o := (n + 1 + 1 + 1 + 1)) (w := W) (a := ⟨wr.heap.size, 7, none⟩) (v := .int .i64 2) (by rw [hW]; simp [go_sem]) (show wr.heap.size ≠ (n + 1 + 1 + 1) by omega) (show wr.heap.size ≠ (n + 1 + 1 + 1 + 1) by omega)
        have r8 := cells_but2 (f := (n + 1 + 1 + 1)) (o := (n + 1 + 1 + 1 + 1)) (w := W) (a := ⟨wr.heap.size, 8, none⟩) (v := .int .i64 (-1)) (by rw [hW]; simp [go_sem]) (show wr.heap.size ≠ (n + 1 + 1 + 1) by omega) (show wr.heap.size ≠ (n + 1 + 1 + 1 + 1) by omega)
        have r9 := cells_but2 (f := (n + 1 + 1 + 1)) (o := (n + 1 + 1 + 1 + 1)) (w := W) (a := ⟨wr.heap.size, 9, none⟩) (v := .int .i64 3) (by rw [hW]; simp [go_sem]) (show wr.heap.size ≠ (n + 1 + 1 + 1) by omega) (show wr.heap.size ≠ (n + 1 + 1 + 1 + 1) by omega)
        have r10 := cells_but2 (f := (n + 1 + 1 + 1)) (o := (n + 1 + 1 + 1 + 1)) (w := W) (a := ⟨wr.heap.size, 10, none⟩) (v := .int .i64 3) (by rw [hW]; simp [go_sem]) (show wr.heap.size ≠ (n + 1 + 1 + 1) by omega) (show wr.heap.size ≠ (n + 1 + 1 + 1 + 1) by omega)
        have r11 := cells_but2 (f := (n + 1 + 1 + 1)) (o := (n + 1 + 1 + 1 + 1)) (w := W) (a := ⟨wr.heap.size, 11, none⟩) (v := .int .i64 (-1)) (by rw [hW]; simp [go_sem]) (show wr.heap.size ≠ (n + 1 + 1 + 1) by omega) (show wr.heap.size ≠ (n + 1 + 1 + 1 + 1) by omega)
        have hKW : But (n + 1 + 1 + 1) wr W := by rw [hW]; exact (But.refl _ _).alloc _
        have HW := Lib.hid hW
        clear hW
        have hpr := row4_cell (hKW.row HM.out.p (show n ≠ (n + 1 + 1 + 1) by omega))
        have hqr := row4_cell (hKW.row HM.out.q (show n + 1 ≠ (n + 1 + 1 + 1) by omega))
        have rp0 := cells_but2 (f := (n + 1 + 1 + 1)) (o := (n + 1 + 1 + 1 + 1)) hpr.1 (show n ≠ (n + 1 + 1 + 1) by omega) (show n ≠ (n + 1 + 1 + 1 + 1) by omega)
        have rq0 := cells_but2 (f := (n + 1 + 1 + 1)) (o := (n + 1 + 1 + 1 + 1)) hqr.1 (show n + 1 ≠ (n + 1 + 1 + 1) by omega) (show n + 1 ≠ (n + 1 + 1 + 1 + 1) by omega)
        have rp1 := cells_but2 (f := (n + 1 + 1 + 1)) (o := (n + 1 + 1 + 1 + 1)) hpr.2.1 (show n ≠ (n + 1 + 1 + 1) by omega) (show n ≠ (n + 1 + 1 + 1 + 1) by omega)
        have rq1 := cells_but2 (f := (n + 1 + 1 + 1)) (o := (n + 1 + 1 + 1 + 1)) hqr.2.1 (show n + 1 ≠ (n + 1 + 1 + 1) by omega) (show n + 1 ≠ (n + 1 + 1 + 1 + 1) by omega)
        have rp2 := cells_but2 (f := (n + 1 + 1 + 1)) (o := (n + 1 + 1 + 1 + 1)) hpr.2.2.1 (show n ≠ (n + 1 + 1 + 1) by omega) (show n ≠ (n + 1 + 1 + 1 + 1) by omega)
        have rq2 := cells_but2 (f := (n + 1 + 1 + 1)) (o := (n + 1 + 1 + 1 + 1)) hqr.2.2.1 (show n + 1 ≠ (n + 1 + 1 + 1) by omega) (show n + 1 ≠ (n + 1 + 1 + 1 + 1) by omega)
        have rp3 := cells_but2 (f := (n + 1 + 1 + 1)) (o := (n + 1 + 1 + 1 + 1)) hpr.2.2.2 (show n ≠ (n + 1 + 1 + 1) by omega) (show n ≠ (n + 1 + 1 + 1 + 1) by omega)
        have rq3 := cells_but2 (f := (n + 1 + 1 + 1)) (o := (n + 1 + 1 + 1 + 1)) hqr.2.2.2 (show n + 1 ≠ (n + 1 + 1 + 1) by omega) (show n + 1 ≠ (n + 1 + 1 + 1 + 1) by omega)
        have HF0 : Hid (Fl W (n + 1 + 1 + 1) false) := by
          show Fl _ _ _
          rw [HW.out]
          exact HM.out.fl.later (below1 _ _)
        have HF0d : Hid (Fl W.drew (n + 1 + 1 + 1) false) := HF0.out
        have HO := Lib.hid (hKW.row HM.out.o (show (n + 1 + 1 + 1 + 1) ≠ (n + 1 + 1 + 1) by omega))
        have hys := HY0.out
        unfold fourQ fourO at hys
        obtain ⟨z0, hz0⟩ : ∃ z, trmQ p.a q.a false = z := ⟨_, rfl⟩
        obtain ⟨t0, ht0⟩ : ∃ z, trmO p.a q.a false = z := ⟨_, rfl⟩
        rw [hz0, ht0] at hys
        have HZ0 := Lib.hid (And.intro hz0 ht0)
        clear hz0 ht0
        obtain ⟨z1, hz1⟩ : ∃ z, trmQ p.b q.b true = z := ⟨_, rfl⟩
        obtain ⟨t1, ht1⟩ : ∃ z, trmO p.b q.b true = z := ⟨_, rfl⟩
        rw [hz1, ht1] at hys
        have HZ1 := Lib.hid (And.intro hz1 ht1)
        clear hz1 ht1
        obtain ⟨z2, hz2⟩ : ∃ z, trmQ p.c q.c true = z := ⟨_, rfl⟩
        obtain ⟨t2, ht2⟩ : ∃ z, trmO p.c q.c true = z := ⟨_, rfl⟩
        rw [hz2, ht2] at hys
        have HZ2 := Lib.hid (And.intro hz2 ht2)
        clear hz2 ht2
        obtain ⟨z3, hz3⟩ : ∃ z, trmQ p.d q.d true = z := ⟨_, rfl⟩
        obtain ⟨t3, ht3⟩ : ∃ z, trmO p.d q.d true = z := ⟨_, rfl⟩
        rw [hz3, ht3] at hys
        have HZ3 := Lib.hid (And.intro hz3 ht3)
        clear hz3 ht3
        have HS := Lib.hid hys
        clear hys hpr hqr
        first | (go_region_held3 (fun w' => But2 (n + 1 + 1 + 1) (n + 1 + 1 + 1 + 1) W w') (first | assumption | exact But2.of (but_drew _ _) | exact But2.of (But.refl _ _) | exact But2.of (by assumption) | exact But2.of (But.alloc (by assumption) _) | exact (But2.of (by assumption)).set _ _) (first | (go_at_call 99; refine (sum_any _ (n + 1 + 1 + 1) w4.heap.size ((((false || t0) || t1) || t2) || t3) z0 z1 z2 z3 (hf4.later (below1 _ _)) (heap_at _ _ _ rfl) (by have := hk4.size; have := hKW.size; omega)).mono ?_; rw [HS.out.1]; rintro e w5 ⟨rfl, hf5, hb5⟩; have hk5 : But (n + 1 + 1 + 1) W w5 := hk4.trans ((But.of_below (below1 _ _)).trans hb5); have hor := hk5.row HO.out (show (n + 1 + 1 + 1 + 1) ≠ (n + 1 + 1 + 1) by omega); have hco := row4_cell hor; have hfo := row4_frozen hor 0) | (go_at_call 95; first | ((with_reducible refine (term_at _ (n + 1 + 1 + 1) n (n + 1) 0 0 1 0 0 false false p.a q.a z0 t0 ci0 ci0 ds1 cl0 cl0 HF0d.out (rp0 _ (by first | exact But2.of (but_drew _ _) | exact But2.of (by assumption))) (rq0 _ (by first | exact But2.of (but_drew _ _) | exact But2.of (by assumption))) (by omega) (by omega) HZ0.out).mono ?_); rintro e w1 ⟨rfl, hf1, hb1⟩; have hk1 : But (n + 1 + 1 + 1) W w1 := (but_drew _ _).trans hb1) | ((with_reducible refine (term_at _ (n + 1 + 1 + 1) n (n + 1) 1 1 (-1) 1 1 (false || t0) true p.b q.b z1 t1 ci1 ci1 dsm cl1 cl1 hf1 (rp1 _ (by first | exact But2.of (but_drew _ _) | exact But2.of (by assumption))) (rq1 _ (by first | exact But2.of (but_drew _ _) | exact But2.of (by assumption))) (by omega) (by omega) HZ1.out).mono ?_); rintro e w2 ⟨rfl, hf2, hb2⟩; have hk2 : But (n + 1 + 1 + 1) W w2 := (hk1).trans hb2) | ((with_reducible refine (term_at _ (n + 1 + 1 + 1) n (n + 1) 2 2 (-1) 2 2 ((false || t0) || t1) true p.c q.c z2 t2 ci2 ci2 dsm cl2 cl2 hf2 (rp2 _ (by first | exact But2.of (but_drew _ _) | exact But2.of (by assumption))) (rq2 _ (by first | exact But2.of (but_drew _ _) | exact But2.of (by assumption))) (by omega) (by omega) HZ2.out).mono ?_); rintro e w3 ⟨rfl, hf3, hb3⟩; have hk3 : But (n + 1 + 1 + 1) W w3 := (hk2).trans hb3) | ((with_reducible refine (term_at _ (n + 1 + 1 + 1) n (n + 1) 3 3 (-1) 3 3 (((false || t0) || t1) || t2) true p.d q.d z3 t3 ci3 ci3 dsm cl3 cl3 hf3 (rp3 _ (by first | exact But2.of (but_drew _ _) | exact But2.of (by assumption))) (rq3 _ (by first | exact But2.of (but_drew _ _) | exact But2.of (by assumption))) (by omega) (by omega) HZ3.out).mono ?_); rintro e w4 ⟨rfl, hf4, hb4⟩; have hk4 : But (n + 1 + 1 + 1) W w4 := (hk3).trans hb4)))) | fail
        go_wp2_with fail
        go_roundg (3)
        case measure => omega
        case rel => exact ⟨1, by omega, by omega, rfl, HM.out.step (hKW.trans hk5) (by have := hf5; simpa [bUp, Bool.or_assoc, ← HS.out.2] using this) rfl rfl⟩
      · have hix := idx1
        have hc0 : ((1 : Nat) : Int) = 1 := rfl
        go_upto_region 7 with fail
        clear hix
        obtain ⟨W, hW⟩ : ∃ W, W = wr.alloc (.cells #[.int .i64 0, .int .i64 1, .int .i64 1, .int .i64 1, .int .i64 0, .int .i64 1, .int .i64 2, .int .i64 3, .int .i64 1, .int .i64 3, .int .i64 2, .int .i64 (-1)] 118) := ⟨_, rfl⟩
        rw [← hW]
        have r0 := cells_but2 (f := (n + 1 + 1 + 1)) (o := (n + 1 + 1 + 1 + 1)) (w := W) (a := ⟨wr.heap.size, 0, none⟩) (v := .int .i64 0) (by rw [hW]; simp [go_sem]) (show wr.heap.size ≠ (n + 1 + 1 + 1) by omega) (show wr.heap.size ≠ (n + 1 + 1 + 1 + 1) by omega)
        have r1 := cells_but2 (f := (n + 1 + 1 + 1)) (o := (n + 1 + 1 + 1 + 1)) (w := W) (a := ⟨wr.heap.size, 1, none⟩) (v := .int .i64 1) (by rw [hW]; simp [go_sem]) (show wr.heap.size ≠ (n + 1 + 1 + 1) by omega) (show wr.heap.size ≠ (n + 1 + 1 + 1 + 1) by omega)
        have r2 := cells_but2 (f := (n + 1 + 1 + 1)) (o := (n + 1 + 1 + 1 + 1)) (w := W) (a := ⟨wr.heap.size, 2, none⟩) (v := .int .i64 1) (by rw [hW]; simp [go_sem]) (show wr.heap.size ≠ (n + 1 + 1 + 1) by omega) (show wr.heap.size ≠ (n + 1 + 1 + 1 + 1) by omega)
        have r3 := cells_but2 (f := (n + 1 + 1 + 1)) (o := (n + 1 + 1 + 1 + 1)) (w := W) (a := ⟨wr.heap.size, 3, none⟩) (v := .int .i64 1) (by rw [hW]; simp [go_sem]) (show wr.heap.size ≠ (n + 1 + 1 + 1) by omega) (show wr.heap.size ≠ (n + 1 + 1 + 1 + 1) by omega)
        have r4 := cells_but2 (f := (n + 1 + 1 + 1)) (o := (n + 1 + 1 + 1 + 1)) (w := W) (a := ⟨wr.heap.size, 4, none⟩) (v := .int .i64 0) (by rw [hW]; simp [go_sem]) (show wr.heap.size ≠ (n + 1 + 1 + 1) by omega) (show wr.heap.size ≠ (n + 1 + 1 + 1 + 1) by omega)
        have r5 := cells_but2 (f := (n + 1 + 1 + 1)) (o := (n + 1 + 1 + 1 + 1)) (w := W) (a := ⟨wr.heap.size, 5, none⟩) (v := .int .i64 1) (by rw [hW]; simp [go_sem]) (show wr.heap.size ≠ (n + 1 + 1 + 1) by omega) (show wr.heap.size ≠ (n + 1 + 1 + 1 + 1) by omega)
        have r6 := cells_but2 (f := (n + 1 + 1 + 1)) (o := (n + 1 + 1 + 1 + 1)) (w := W) (a := ⟨wr.heap.size, 6, none⟩) (v := .int .i64 2) (by rw [hW]; simp [go_sem]) (show wr.heap.size ≠ (n + 1 + 1 + 1) by omega) (show wr.heap.size ≠ (n + 1 + 1 + 1 + 1) by omega)
        have r7 := cells_but2 (f := (n + 1 + 1 + 1)) (o := (n + 1 + 1 + 1 + 1)) (w := W) (a := ⟨wr.heap.size, 7, none⟩) (v := .int .i64 3) (by rw [hW]; simp [go_sem]) (show wr.heap.size ≠ (n + 1 + 1 + 1) by omega) (show wr.heap.size ≠ (n + 1 + 1 + 1 + 1) by omega)
        have r8 := cells_but2 (f := (n + 1 + 1 + 1)) (o := (n + 1 + 1 + 1 + 1)) (w := W) (a := ⟨wr.heap.size, 8, none⟩) (v := .int .i64 1) (by rw [hW]; simp [go_sem]) (show wr.heap.size ≠ (n + 1 + 1 + 1) by omega) (show wr.heap.size ≠ (n + 1 + 1 + 1 + 1) by omega)
        have r9 := cells_but2 (f := (n + 1 + 1 + 1)) (o := (n + 1 + 1 + 1 + 1)) (w := W) (a := ⟨wr.heap.size, 9, none⟩) (v := .int .i64 3) (by rw [hW]; simp [go_sem]) (show wr.heap.size ≠ (n + 1 + 1 + 1) by omega) (show wr.heap.size ≠ (n + 1 + 1 + 1 + 1) by omega)
        have r10 := cells_but2 (f := (n + 1 + 1 + 1)) (o := (n + 1 + 1 + 1 + 1)) (w := W) (a := ⟨wr.heap.size, 10, none⟩) (v := .int .i64 2) (by rw [hW]; simp [go_sem]) (show wr.heap.size ≠ (n + 1 + 1 + 1) by omega) (show wr.heap.size ≠ (n + 1 + 1 + 1 + 1) by omega)
        have r11 := cells_but2 (f := (n + 1 + 1 + 1)) (o := (n + 1 + 1 + 1 + 1)) (w := W) (a := ⟨wr.heap.size, 11, none⟩) (v := .int .i64 (-1)) (by rw [hW]; simp [go_sem]) (show wr.heap.size ≠ (n + 1 + 1 + 1) by omega) (show wr.heap.size ≠ (n + 1 + 1 + 1 + 1) by omega)
        have hKW : But (n + 1 + 1 + 1) wr W := by rw [hW]; exact (But.refl _ _).alloc _
        have HW := Lib.hid hW
        clear hW
        have hpr := row4_cell (hKW.row HM.out.p (show n ≠ (n + 1 + 1 + 1) by omega))
        have hqr := row4_cell (hKW.row HM.out.q (show n + 1 ≠ (n + 1 + 1 + 1) by omega))
        have rp0 := cells_but2 (f := (n + 1 + 1 + 1)) (o := (n + 1 + 1 + 1 + 1)) hpr.1 (show n ≠ (n + 1 + 1 + 1) by omega) (show n ≠ (n + 1 + 1 + 1 + 1) by omega)
        have rq0 := cells_but2 (f := (n + 1 + 1 + 1)) (o := (n + 1 + 1 + 1 + 1)) hqr.1 (show n + 1 ≠ (n + 1 + 1 + 1) by omega) (show n + 1 ≠ (n + 1 + 1 + 1 + 1) by omega)
        have rp1 := cells_but2 (f := (n + 1 + 1 + 1)) (o := (n + 1 + 1 + 1 + 1)) hpr.2.1 (show n ≠ (n + 1 + 1 + 1) by omega) (show n ≠ (n + 1 + 1 + 1 + 1) by omega)
        have rq1 := cells_but2 (f := (n + 1 + 1 + 1)) (o := (n + 1 + 1 + 1 + 1)) hqr.2.1 (show n + 1 ≠ (n + 1 + 1 + 1) by omega) (show n + 1 ≠ (n + 1 + 1 + 1 + 1) by omega)
        have rp2 := cells_but2 (f := (n + 1 + 1 + 1)) (o := (n + 1 + 1 + 1 + 1)) hpr.2.2.1 (show n ≠ (n + 1 + 1 + 1) by omega) (show n ≠ (n + 1 + 1 + 1 + 1) by omega)
        have rq2 := cells_but2 (f := (n + 1 + 1 + 1)) (o := (n + 1 + 1 + 1 + 1)) hqr.2.2.1 (show n + 1 ≠ (n + 1 + 1 + 1) by omega) (show n + 1 ≠ (n + 1 + 1 + 1 + 1) by omega)
        have rp3 := cells_but2 (f := (n + 1 + 1 + 1)) (o := (n + 1 + 1 + 1 + 1)) hpr.2.2.2 (show n ≠ (n + 1 + 1 + 1) by omega) (show n ≠ (n + 1 + 1 + 1 + 1) by omega)
        have rq3 := cells_but2 (f := (n + 1 + 1 + 1)) (o := (n + 1 + 1 + 1 + 1)) hqr.2.2.2 (show n + 1 ≠ (n + 1 + 1 + 1) by omega) (show n + 1 ≠ (n + 1 + 1 + 1 + 1) by omega)
        have HF0 : Hid (Fl W (n + 1 + 1 + 1) o0) := by
          show Fl _ _ _
          rw [HW.out]
          exact HM.out.fl.later (below1 _ _)
        have HF0d : Hid (Fl W.drew (n + 1 + 1 + 1) o0) := HF0.out
        have HO := Lib.hid (hKW.row HM.out.o (show (n + 1 + 1 + 1 + 1) ≠ (n + 1 + 1 + 1) by omega))
        have hys := HY1.out
        unfold fourQ fourO at hys
        obtain ⟨z0, hz0⟩ : ∃ z, trmQ p.a q.b false = z := ⟨_, rfl⟩
        obtain ⟨t0, ht0⟩ : ∃ z, trmO p.a q.b false = z := ⟨_, rfl⟩
        rw [hz0, ht0] at hys
        have HZ0 := Lib.hid (And.intro hz0 ht0)
        clear hz0 ht0
        obtain ⟨z1, hz1⟩ : ∃ z, trmQ p.b q.a false = z := ⟨_, rfl⟩
        obtain ⟨t1, ht1⟩ : ∃ z, trmO p.b q.a false = z := ⟨_, rfl⟩
        rw [hz1, ht1] at hys
        have HZ1 := Lib.hid (And.intro hz1 ht1)
        clear hz1 ht1
        obtain ⟨z2, hz2⟩ : ∃ z, trmQ p.c q.d false = z := ⟨_, rfl⟩
        obtain ⟨t2, ht2⟩ : ∃ z, trmO p.c q.d false = z := ⟨_, rfl⟩
        rw [hz2, ht2] at hys
        have HZ2 := Lib.hid (And.intro hz2 ht2)
        clear hz2 ht2
        obtain ⟨z3, hz3⟩ : ∃ z, trmQ p.d q.c true = z := ⟨_, rfl⟩
        obtain ⟨t3, ht3⟩ : ∃ z, trmO p.d q.c true = z := ⟨_, rfl⟩
        rw [hz3, ht3] at hys
        have HZ3 := Lib.hid (And.intro hz3 ht3)
        clear hz3 ht3
        have HS := Lib.hid hys
        clear hys hpr hqr
        first | (go_region_held3 (fun w' => But2 (n + 1 + 1 + 1) (n + 1 + 1 + 1 + 1) W w') (first | assumption | exact But2.of (but_drew _ _) | exact But2.of (But.refl _ _) | exact But2.of (by assumption) | exact But2.of (But.alloc (by assumption) _) | exact (But2.of (by assumption)).set _ _) (first | (go_at_call 99; refine (sum_any _ (n + 1 + 1 + 1) w4.heap.size ((((o0 || t0) || t1) || t2) || t3) z0 z1 z2 z3 (hf4.later (below1 _ _)) (heap_at _ _ _ rfl) (by have := hk4.size; have := hKW.size; omega)).mono ?_; rw [HS.out.1]; rintro e w5 ⟨rfl, hf5, hb5⟩; have hk5 : But (n + 1 + 1 + 1) W w5 := hk4.trans ((But.of_below (below1 _ _)).trans hb5); have hor := hk5.row HO.out (show (n + 1 + 1 + 1 + 1) ≠ (n + 1 + 1 + 1) by omega); have hco := row4_cell hor; have hfo := row4_frozen hor 1) | (go_at_call 95; first | ((with_reducible refine (term_at _ (n + 1 + 1 + 1) n (n + 1) 0 1 1 0 1 o0 false p.a q.b z0 t0 ci0 ci1 ds1 cl0 cl1 HF0d.out (rp0 _ (by first | exact But2.of (but_drew _ _) | exact But2.of (by assumption))) (rq1 _ (by first | exact But2.of (but_drew _ _) | exact But2.of (by assumption))) (by omega) (by omega) HZ0.out).mono ?_); rintro e w1 ⟨rfl, hf1, hb1⟩; have hk1 : But (n + 1 + 1 + 1) W w1 := (but_drew _ _).trans hb1) | ((with_reducible refine (term_at _ (n + 1 + 1 + 1) n (n + 1) 1 0 1 1 0 (o0 || t0) false p.b q.a z1 t1 ci1 ci0 ds1 cl1 cl0 hf1 (rp1 _ (by first | exact But2.of (but_drew _ _) | exact But2.of (by assumption))) (rq0 _ (by first | exact But2.of (but_drew _ _) | exact But2.of (by assumption))) (by omega) (by omega) HZ1.out).mono ?_); rintro e w2 ⟨rfl, hf2, hb2⟩; have hk2 : But (n + 1 + 1 + 1) W w2 := (hk1).trans hb2) | ((with_reducible refine (term_at _ (n + 1 + 1 + 1) n (n + 1) 2 3 1 2 3 ((o0 || t0) || t1) false p.c q.d z2 t2 ci2 ci3 ds1 cl2 cl3 hf2 (rp2 _ (by first | exact But2.of (but_drew _ _) | exact But2.of (by assumption))) (rq3 _ (by first | exact But2.of (but_drew _ _) | exact But2.of (by assumption))) (by omega) (by omega) HZ2.out).mono ?_); rintro e w3 ⟨rfl, hf3, hb3⟩; have hk3 : But (n + 1 + 1 + 1) W w3 := (hk2).trans hb3) | ((with_reducible refine (term_at _ (n + 1 + 1 + 1) n (n + 1) 3 2 (-1) 3 2 (((o0 || t0) || t1) || t2) true p.d q.c z3 t3 ci3 ci2 dsm cl3 cl2 hf3 (rp3 _ (by first | exact But2.of (but_drew _ _) | exact But2.of (by assumption))) (rq2 _ (by first | exact But2.of (but_drew _ _) | exact But2.of (by assumption))) (by omega) (by omega) HZ3.out).mono ?_); rintro e w4 ⟨rfl, hf4, hb4⟩; have hk4 : But (n + 1 + 1 + 1) W w4 := (hk3).trans hb4)))) | fail
        go_wp2_with fail
        go_roundg (2)
        case measure => omega
        case rel => exact ⟨2, by omega, by omega, rfl, HM.out.step (hKW.trans hk5) (by have := hf5; simpa [bUp, Bool.or_assoc, ← HS.out.2] using this) rfl rfl⟩
      · have hix := idx2
        have hc0 : ((2 : Nat) : Int) = 2 := rfl
        go_upto_region 7 with fail
        clear hix
        obtain ⟨W, hW⟩ : ∃ W, W = wr.alloc (.cells #[.int .i64 0, .int .i64 2, .int .i64 1, .int .i64 1, .int .i64 3, .int .i64 (-1), .int .i64 2, .int .i64 0, .int .i64 1, .int .i64 3, .int .i64 1, .int .i64 1] 118) := ⟨_, rfl⟩
        rw [← hW]
        have r0 := cells_but2 (f := (n + 1 + 1 + 1)) (o := (n + 1 + 1 + 1 + 1)) (w := W) (a := ⟨wr.heap.size, 0, none⟩) (v := .int .i64 0) (by rw [hW]; simp [go_sem]) (show wr.heap.size ≠ (n + 1 + 1 + 1) by omega) (show wr.heap.size ≠ (n + 1 + 1 + 1 + 1) by omega)
        have r1 := cells_but2 (f := (n + 1 + 1 + 1)) (o := (n + 1 + 1 + 1 + 1)) (w := W) (a := ⟨wr.heap.size, 1, none⟩) (v := .int .i64 2) (by rw [hW]; simp [go_sem]) (show wr.heap.size ≠ (n + 1 + 1 + 1) by omega) (show wr.heap.size ≠ (n + 1 + 1 + 1 + 1) by omega)
        have r2 := cells_but2 (f := (n + 1 + 1 + 1)) (o := (n + 1 + 1 + 1 + 1)) (w := W) (a := ⟨wr.heap.size, 2, none⟩) (v := .int .i64 1) (by rw [hW]; simp [go_sem]) (show wr.heap.size ≠ (n + 1 + 1 + 1) by omega) (show wr.heap.size ≠ (n + 1 + 1 + 1 + 1) by omega)
        have r3 := cells_but2 (f := (n + 1 + 1 + 1)) (o := (n + 1 + 1 + 1 + 1)) (w := W) (a := ⟨wr.heap.size, 3, none⟩) (v := .int .i64 1) (by rw [hW]; simp [go_sem]) (show wr.heap.size ≠ (n + 1 + 1 + 1) by omega) (show wr.heap.size ≠ (n + 1 + 1 + 1 + 1) by omega)
        have r4 := cells_but2 (f := (n + 1 + 1 + 1)) (o := (n + 1 + 1 + 1 + 1)) (w := W) (a := ⟨wr.heap.size, 4, none⟩) (v := .int .i64 3) (by rw [hW]; simp [go_sem]) (show wr.heap.size ≠ (n + 1 + 1 + 1) by omega) (show wr.heap.size ≠ (n + 1 + 1 + 1 + 1) by omega)
        have r5 := cells_but2 (f := (n + 1 + 1 + 1)) (o := (n + 1 + 1 + 1 + 1)) (w := W) (a := ⟨wr.heap.size, 5, none⟩) (v := .int .i64 (-1)) (by rw [hW]; simp [go_sem]) (show wr.heap.size ≠ (n + 1 + 1 + 1) by omega) (show wr.heap.size ≠ (n + 1 + 1 + 1 + 1) by omega)
        have r6 := cells_but2 (f := (n + 1 + 1 + 1)) (o := (n + 1 + 1 + 1 + 1)) (w := W) (a := ⟨wr.heap.size, 6, none⟩) (v := .int .i64 2) (by rw [hW]; simp [go_sem]) (show wr.heap.size ≠ (n + 1 + 1 + 1) by omega) (show wr.heap.size ≠ (n + 1 + 1 + 1 + 1) by omega)
        have r7 := cells_but2 (f := (n + 1 + 1 + 1)) (o := (n + 1 + 1 + 1 + 1)) (w := W) (a := ⟨wr.heap.size, 7, none⟩) (v := .int .i64 0) (by rw [hW]; simp [go_sem]) (show wr.heap.size ≠ (n + 1 + 1 + 1) by omega) (show wr.heap.size ≠ (n + 1 + 1 + 1 + 1) by omega)
        have r8 := cells_but2 (f := (n + 1 + 1 + 1)) (o := (n + 1 + 1 + 1 + 1)) (w := W) (a := ⟨wr.heap.size, 8, none⟩) (v := .int .i64 1) (by rw [hW]; simp [go_sem]) (show wr.heap.size ≠ (n + 1 + 1 + 1) by omega) (show wr.heap.size ≠ (n + 1 + 1 + 1 + 1) by omega)
        have r9 := cells_but2 (f := (n + 1 + 1 + 1)) (o := (n + 1 + 1 + 1 + 1)) (w := W) (a := ⟨wr.heap.size, 9, none⟩) (v := .int .i64 3) (by rw [hW]; simp [go_sem]) (show wr.heap.size ≠ (n + 1 + 1 + 1) by omega) (show wr.heap.size ≠ (n + 1 + 1 + 1 + 1) by omega)
        have r10 := cells_but2 (f := (n + 1 + 1 + 1)) (o := (n + 1 + 1 + 1 + 1)) (w := W) (a := ⟨wr.heap.size, 10, none⟩) (v := .int .i64 1) (by rw [hW]; simp [go_sem]) (show wr.heap.size ≠ (n + 1 + 1 + 1) by omega) (show wr.heap.size ≠ (n + 1 + 1 + 1 + 1) by omega)
        have r11 := cells_but2 (f := (n + 1 + 1 + 1)) (o := (n + 1 + 1 + 1 + 1)) (w := W) (a := ⟨wr.heap.size, 11, none⟩) (v := .int .i64 1) (by rw [hW]; simp [go_sem]) (show wr.heap.size ≠ (n + 1 + 1 + 1) by omega) (show wr.heap.size ≠ (n + 1 + 1 + 1 + 1) by omega)
        have hKW : But (n + 1 + 1 + 1) wr W := by rw [hW]; exact (But.refl _ _).alloc _
        have HW := Lib.hid hW
        clear hW
        have hpr := row4_cell (hKW.row HM.out.p (show n ≠ (n + 1 + 1 + 1) by omega))
        have hqr := row4_cell (hKW.row HM.out.q (show n + 1 ≠ (n + 1 + 1 + 1) by omega))
        have rp0 := cells_but2 (f := (n + 1 + 1 + 1)) (o := (n + 1 + 1 + 1 + 1)) hpr.1 (show n ≠ (n + 1 + 1 + 1) by omega) (show n ≠ (n + 1 + 1 + 1 + 1) by omega)
        have rq0 := cells_but2 (f := (n + 1 + 1 + 1)) (o := (n + 1 + 1 + 1 + 1)) hqr.1 (show n + 1 ≠ (n + 1 + 1 + 1) by omega) (show n + 1 ≠ (n + 1 + 1 + 1 + 1) by omega)
        have rp1 := cells_but2 (f := (n + 1 + 1 + 1)) (o := (n + 1 + 1 + 1 + 1)) hpr.2.1 (show n ≠ (n + 1 + 1 + 1) by omega) (show n ≠ (n + 1 + 1 + 1 + 1) by omega)
        have rq1 := cells_but2 (f := (n + 1 + 1 + 1)) (o := (n + 1 + 1 + 1 + 1)) hqr.2.1 (show n + 1 ≠ (n + 1 + 1 + 1) by omega) (show n + 1 ≠ (n + 1 + 1 + 1 + 1) by omega)
        have rp2 := cells_but2 (f := (n + 1 + 1 + 1)) (o := (n + 1 + 1 + 1 + 1)) hpr.2.2.1 (show n ≠ (n + 1 + 1 + 1) by omega) (show n ≠ (n + 1 + 1 + 1 + 1) by omega)
        have rq2 := cells_but2 (f := (n + 1 + 1 + 1)) (o := (n + 1 + 1 + 1 + 1)) hqr.2.2.1 (show n + 1 ≠ (n + 1 + 1 + 1) by omega) (show n + 1 ≠ (n + 1 + 1 + 1 + 1) by omega)
        have rp3 := cells_but2 (f := (n + 1 + 1 + 1)) (o := (n + 1 + 1 + 1 + 1)) hpr.2.2.2 (show n ≠ (n + 1 + 1 + 1) by omega) (show n ≠ (n + 1 + 1 + 1 + 1) by omega)
        have rq3 := cells_but2 (f := (n + 1 + 1 + 1)) (o := (n + 1 + 1 + 1 + 1)) hqr.2.2.2 (show n + 1 ≠ (n + 1 + 1 + 1) by omega) (show n + 1 ≠ (n + 1 + 1 + 1 + 1) by omega)
        have HF0 : Hid (Fl W (n + 1 + 1 + 1) (o0 || o1)) := by
          show Fl _ _ _
          rw [HW.out]
          exact HM.out.fl.later (below1 _ _)
        have HF0d : Hid (Fl W.drew (n + 1 + 1 + 1) (o0 || o1)) := HF0.out
        have HO := Lib.hid (hKW.row HM.out.o (show (n + 1 + 1 + 1 + 1) ≠ (n + 1 + 1 + 1) by omega))
        have hys := HY2.out
        unfold fourQ fourO at hys
        obtain ⟨z0, hz0⟩ : ∃ z, trmQ p.a q.c false = z := ⟨_, rfl⟩
        obtain ⟨t0, ht0⟩ : ∃ z, trmO p.a q.c false = z := ⟨_, rfl⟩
        rw [hz0, ht0] at hys
        have HZ0 := Lib.hid (And.intro hz0 ht0)
        clear hz0 ht0
        obtain ⟨z1, hz1⟩ : ∃ z, trmQ p.b q.d true = z := ⟨_, rfl⟩
        obtain ⟨t1, ht1⟩ : ∃ z, trmO p.b q.d true = z := ⟨_, rfl⟩
        rw [hz1, ht1] at hys
        have HZ1 := Lib.hid (And.intro hz1 ht1)
        clear hz1 ht1
        obtain ⟨z2, hz2⟩ : ∃ z, trmQ p.c q.a false = z := ⟨_, rfl⟩
        obtain ⟨t2, ht2⟩ : ∃ z, trmO p.c q.a false = z := ⟨_, rfl⟩
        rw [hz2, ht2] at hys
        have HZ2 := Lib.hid (And.intro hz2 ht2)
        clear hz2 ht2
        obtain ⟨z3, hz3⟩ : ∃ z, trmQ p.d q.b false = z := ⟨_, rfl⟩
        obtain ⟨t3, ht3⟩ : ∃ z, trmO p.d q.b false = z := ⟨_, rfl⟩
        rw [hz3, ht3] at hys
        have HZ3 := Lib.hid (And.intro hz3 ht3)
        clear hz3 ht3
        have HS := Lib.hid hys
        clear hys hpr hqr
        first | (go_region_held3 (fun w' => But2 (n + 1 + 1 + 1) (n + 1 + 1 + 1 + 1) W w') (first | assumption | exact But2.of (but_drew _ _) | exact But2.of (But.refl _ _) | exact But2.of (by assumption) | exact But2.of (But.alloc (by assumption) _) | exact (But2.of (by assumption)).set _ _) (first | (go_at_call 99; refine (sum_any _ (n + 1 + 1 + 1) w4.heap.size (((((o0 || o1) || t0) || t1) || t2) || t3) z0 z1 z2 z3 (hf4.later (below1 _ _)) (heap_at _ _ _ rfl) (by have := hk4.size; have := hKW.size; omega)).mono ?_; rw [HS.out.1]; rintro e w5 ⟨rfl, hf5, hb5⟩; have hk5 : But (n + 1 + 1 + 1) W w5 := hk4.trans ((But.of_below (below1 _ _)).trans hb5); have hor := hk5.row HO.out (show (n + 1 + 1 + 1 + 1) ≠ (n + 1 + 1 + 1) by omega); have hco := row4_cell hor; have hfo := row4_frozen hor 2) | (go_at_call 95; first | ((with_reducible refine (term_at _ (n + 1 + 1 + 1) n (n + 1) 0 2 1 0 2 (o0 || o1) false p.a q.c z0 t0 ci0 ci2 ds1 cl0 cl2 HF0d.out (rp0 _ (by first | exact But2.of (but_drew _ _) | exact But2.of (by assumption))) (rq2 _ (by first | exact But2.of (but_drew _ _) | exact But2.of (by assumption))) (by omega) (by omega) HZ0.out).mono ?_); rintro e w1 ⟨rfl, hf1, hb1⟩; have hk1 : But (n + 1 + 1 + 1) W w1 := (but_drew _ _).trans hb1) | ((with_reducible refine (term_at _ (n + 1 + 1 + 1) n (n + 1) 1 3 (-1) 1 3 ((o0 || o1) || t0) true p.b q.d z1 t1 ci1 ci3 dsm cl1 cl3 hf1 (rp1 _ (by first | exact But2.of (but_drew _ _) | exact But2.of (by assumption))) (rq3 _ (by first | exact But2.of (but_drew _ _) | exact But2.of (by assumption))) (by omega) (by omega) HZ1.out).mono ?_); rintro e w2 ⟨rfl, hf2, hb2⟩; have hk2 : But (n + 1 + 1 + 1) W w2 := (hk1).trans hb2) | ((with_reducible refine (term_at _ (n + 1 + 1 + 1) n (n + 1) 2 0 1 2 0 (((o0 || o1) || t0) || t1) false p.c q.a z2 t2 ci2 ci0 ds1 cl2 cl0 hf2 (rp2 _ (by first | exact But2.of (but_drew _ _) | exact But2.of (by assumption))) (rq0 _ (by first | exact But2.of (but_drew _ _) | exact But2.of (by assumption))) (by omega) (by omega) HZ2.out).mono ?_); rintro e w3 ⟨rfl, hf3, hb3⟩; have hk3 : But (n + 1 + 1 + 1) W w3 := (hk2).trans hb3) | ((with_reducible refine (term_at _ (n + 1 + 1 + 1) n (n + 1) 3 1 1 3 1 ((((o0 || o1) || t0) || t1) || t2) false p.d q.b z3 t3 ci3 ci1 ds1 cl3 cl1 hf3 (rp3 _ (by first | exact But2.of (but_drew _ _) | exact But2.of (by assumption))) (rq1 _ (by first | exact But2.of (but_drew _ _) | exact But2.of (by assumption))) (by omega) (by omega) HZ3.out).mono ?_); rintro e w4 ⟨rfl, hf4, hb4⟩; have hk4 : But (n + 1 + 1 + 1) W w4 := (hk3).trans hb4)))) | fail
        go_wp2_with fail
        go_roundg (1)
        case measure => omega
        case rel => exact ⟨3, by omega, by omega, rfl, HM.out.step (hKW.trans hk5) (by have := hf5; simpa [bUp, Bool.or_assoc, ← HS.out.2] using this) rfl rfl⟩
      · have hix := idx3
        have hc0 : ((3 : Nat) : Int) = 3 := rfl
        go_upto_region 7 with fail
        clear hix
        obtain ⟨W, hW⟩ : ∃ W, W = wr.alloc (.cells #[.int .i64 0, .int .i64 3, .int .i64 1, .int .i64 1, .int .i64 2, .int .i64 1, .int .i64 2, .int .i64 1, .int .i64 (-1), .int .i64 3, .int .i64 0, .int .i64 1] 118) := ⟨_, rfl⟩
        rw [← hW]
        have r0 := cells_but2 (f := (n + 1 + 1 + 1)) (o := (n + 1 + 1 + 1 + 1)) (w := W) (a := ⟨wr.heap.size, 0, none⟩) (v := .int .i64 0) (by rw [hW]; simp [go_sem]) (show wr.heap.size ≠ (n + 1 + 1 + 1) by omega) (show wr.heap.size ≠ (n + 1 + 1 + 1 + 1) by omega)
        have r1 := cells_but2 (f := (n + 1 + 1 + 1)) (o := (n + 1 + 1 + 1 + 1)) (w := W) (a := ⟨wr.heap.size, 1, none⟩) (v := .int .i64 3) (by rw [hW]; simp [go_sem]) (show wr.heap.size ≠ (n + 1 + 1 + 1) by omega) (show wr.heap.size ≠ (n + 1 + 1 + 1 + 1) by omega)
        have r2 := cells_but2 (f := (n + 1 + 1 + 1)) (o := (n + 1 + 1 + 1 + 1)) (w := W) (a := ⟨wr.heap.size, 2, none⟩) (v := .int .i64 1) (by rw [hW]; simp [go_sem]) (show wr.heap.size ≠ (n + 1 + 1 + 1) by omega) (show wr.heap.size ≠ (n + 1 + 1 + 1 + 1) by omega)
        have r3 := cells_but2 (f := (n + 1 + 1 + 1)) (o := (n + 1 + 1 + 1 + 1)) (w := W) (a := ⟨wr.heap.size, 3, none⟩) (v := .int .i64 1) (by rw [hW]; simp [go_sem]) (show wr.heap.size ≠ (n + 1 + 1 + 1) by omega) (show wr.heap.size ≠ (n + 1 + 1 + 1 + 1) by omega)
        have r4 := cells_but2 (f := (n + 1 + 1 + 1)) (o := (n + 1 + 1 + 1 + 1)) (w := W) (a := ⟨wr.heap.size, 4, none⟩) (v := .int .i64 2) (by rw [hW]; simp [go_sem]) (show wr.heap.size ≠ (n + 1 + 1 + 1) by omega) (show wr.heap.size ≠ (n + 1 + 1 + 1 + 1) by omega)
        have r5 := cells_but2 (f := (n + 1 + 1 + 1)) (o := (n + 1 + 1 + 1 + 1)) (w := W) (a := ⟨wr.heap.size, 5, none⟩) (v := .int .i64 1) (by rw [hW]; simp [go_sem]) (show wr.heap.size ≠ (n + 1 + 1 + 1) by omega) (show wr.heap.size ≠ (n + 1 + 1 + 1 + 1) by omega)
        have r6 := cells_but2 (f := (n + 1 + 1 + 1)) (o := (n + 1 + 1 + 1 + 1)) (w := W) (a := ⟨wr.heap.size, 6, none⟩) (v := .int .i64 2) (by rw [hW]; simp [go_sem]) (show wr.heap.size ≠ (n + 1 + 1 + 1) by omega) (show wr.heap.size ≠ (n + 1 + 1 + 1 + 1) by omega)
        have r7 := cells_but2 (f := (n + 1 + 1 + 1)) (o := (n + 1 + 1 + 1 + 1)) (w := W) (a := ⟨wr.heap.size, 7, none⟩) (v := .int .i64 1) (by rw [hW]; simp [go_sem]) (show wr.heap.size ≠ (n + 1 + 1 + 1) by omega) (show wr.heap.size ≠ (n + 1 + 1 + 1 + 1) by omega)
        have r8 := cells_but2 (f := (n + 1 + 1 + 1)) (o := (n + 1 + 1 + 1 + 1)) (w := W) (a := ⟨wr.heap.size, 8, none⟩) (v := .int .i64 (-1)) (by rw [hW]; simp [go_sem]) (show wr.heap.size ≠ (n + 1 + 1 + 1) by omega) (show wr.heap.size ≠ (n + 1 + 1 + 1 + 1) by omega)
        have r9 := cells_but2 (f := (n + 1 + 1 + 1)) (o := (n + 1 + 1 + 1 + 1)) (w := W) (a := ⟨wr.heap.size, 9, none⟩) (v := .int .i64 3) (by rw [hW]; simp [go_sem]) (show wr.heap.size ≠ (n + 1 + 1 + 1) by omega) (show wr.heap.size ≠ (n + 1 + 1 + 1 + 1) by omega)
        have r10 := cells_but2 (f := (n + 1 + 1 + 1)) (o := (n + 1 + 1 + 1 + 1)) (w := W) (a := ⟨wr.heap.size, 10, none⟩) (v := .int .i64 0) (by rw [hW]; simp [go_sem]) (show wr.heap.size ≠ (n + 1 + 1 + 1) by omega) (show wr.heap.size ≠ (n + 1 + 1 + 1 + 1) by omega)
        have r11 := cells_but2 (f := (n + 1 + 1 + 1)) (o := (n + 1 + 1 + 1 + 1)) (w := W) (a := ⟨wr.heap.size, 11, none⟩) (v := .int .i64 1) (by rw [hW]; simp [go_sem]) (show wr.heap.size ≠ (n + 1 + 1 + 1) by omega) (show wr.heap.size ≠ (n + 1 + 1 + 1 + 1) by omega)
        have hKW : But (n + 1 + 1 + 1) wr W := by rw [hW]; exact (But.refl _ _).alloc _
        have HW := Lib.hid hW
        clear hW
        have hpr := row4_cell (hKW.row HM.out.p (show n ≠ (n + 1 + 1 + 1) by omega))
        have hqr := row4_cell (hKW.row HM.out.q (show n + 1 ≠ (n + 1 + 1 + 1) by omega))
        have rp0 := cells_but2 (f := (n + 1 + 1 + 1)) (o := (n + 1 + 1 + 1 + 1)) hpr.1 (show n ≠ (n + 1 + 1 + 1) by omega) (show n ≠ (n + 1 + 1 + 1 + 1) by omega)
        have rq0 := cells_but2 (f := (n + 1 + 1 + 1)) (o := (n + 1 + 1 + 1 + 1)) hqr.1 (show n + 1 ≠ (n + 1 + 1 + 1) by omega) (show n + 1 ≠ (n + 1 + 1 + 1 + 1) by omega)
        have rp1 := cells_but2 (f := (n + 1 + 1 + 1)) (o := (n + 1 + 1 + 1 + 1)) hpr.2.1 (show n ≠ (n + 1 + 1 + 1) by omega) (show n ≠ (n + 1 + 1 + 1 + 1) by omega)
        have rq1 := cells_but2 (f := (n + 1 + 1 + 1)) (o := (n + 1 + 1 + 1 + 1)) hqr.2.1 (show n + 1 ≠ (n + 1 + 1 + 1) by omega) (show n + 1 ≠ (n + 1 + 1 + 1 + 1) by omega)
        have rp2 := cells_but2 (f := (n + 1 + 1 + 1)) (o := (n + 1 + 1 + 1 + 1)) hpr.2.2.1 (show n ≠ (n + 1 + 1 + 1) by omega) (show n ≠ (n + 1 + 1 + 1 + 1) by omega)
        have rq2 := cells_but2 (f := (n + 1 + 1 + 1)) (o := (n + 1 + 1 + 1 + 1)) hqr.2.2.1 (show n + 1 ≠ (n + 1 + 1 + 1) by omega) (show n + 1 ≠ (n + 1 + 1 + 1 + 1) by omega)
        have rp3 := cells_but2 (f := (n + 1 + 1 + 1)) (o := (n + 1 + 1 + 1 + 1)) hpr.2.2.2 (show n ≠ (n + 1 + 1 + 1) by omega) (show n ≠ (n + 1 + 1 + 1 + 1) by omega)
        have rq3 := cells_but2 (f := (n + 1 + 1 + 1)) (o := (n + 1 + 1 + 1 + 1)) hqr.2.2.2 (show n + 1 ≠ (n + 1 + 1 + 1) by omega) (show n + 1 ≠ (n + 1 + 1 + 1 + 1) by omega)
        have HF0 : Hid (Fl W (n + 1 + 1 + 1) (o0 || o1 || o2)) := by
          show Fl _ _ _
          rw [HW.out]
          exact HM.out.fl.later (below1 _ _)
        have HF0d : Hid (Fl W.drew (n + 1 + 1 + 1) (o0 || o1 || o2)) := HF0.out
        have HO := Lib.hid (hKW.row HM.out.o (show (n + 1 + 1 + 1 + 1) ≠ (n + 1 + 1 + 1) by omega))
        have hys := HY3.out
        unfold fourQ fourO at hys
        obtain ⟨z0, hz0⟩ : ∃ z, trmQ p.a q.d false = z := ⟨_, rfl⟩
        obtain ⟨t0, ht0⟩ : ∃ z, trmO p.a q.d false = z := ⟨_, rfl⟩
        rw [hz0, ht0] at hys
        have HZ0 := Lib.hid (And.intro hz0 ht0)
        clear hz0 ht0
        obtain ⟨z1, hz1⟩ : ∃ z, trmQ p.b q.c false = z := ⟨_, rfl⟩
        obtain ⟨t1, ht1⟩ : ∃ z, trmO p.b q.c false = z := ⟨_, rfl⟩
        rw [hz1, ht1] at hys
        have HZ1 := Lib.hid (And.intro hz1 ht1)
        clear hz1 ht1
        obtain ⟨z2, hz2⟩ : ∃ z, trmQ p.c q.b true = z := ⟨_, rfl⟩
        obtain ⟨t2, ht2⟩ : ∃ z, trmO p.c q.b true = z := ⟨_, rfl⟩
        rw [hz2, ht2] at hys
        have HZ2 := Lib.hid (And.intro hz2 ht2)
        clear hz2 ht2
        obtain ⟨z3, hz3⟩ : ∃ z, trmQ p.d q.a false = z := ⟨_, rfl⟩
        obtain ⟨t3, ht3⟩ : ∃ z, trmO p.d q.a false = z := ⟨_, rfl⟩
        rw [hz3, ht3] at hys
        have HZ3 := Lib.hid (And.intro hz3 ht3)
        clear hz3 ht3
        have HS := Lib.hid hys
        clear hys hpr hqr
        first | (go_region_held3 (fun w' => But2 (n + 1 + 1 + 1) (n + 1 + 1 + 1 + 1) W w') (first | assumption | exact But2.of (but_drew _ _) | exact But2.of (But.refl _ _) | exact But2.of (by assumption) | exact But2.of (But.alloc (by assumption) _) | exact (But2.of (by assumption)).set _ _) (first | (go_at_call 99; refine (sum_any _ (n + 1 + 1 + 1) w4.heap.size (((((o0 || o1 || o2) || t0) || t1) || t2) || t3) z0 z1 z2 z3 (hf4.later (below1 _ _)) (heap_at _ _ _ rfl) (by have := hk4.size; have := hKW.size; omega)).mono ?_; rw [HS.out.1]; rintro e w5 ⟨rfl, hf5, hb5⟩; have hk5 : But (n + 1 + 1 + 1) W w5 := hk4.trans ((But.of_below (below1 _ _)).trans hb5); have hor := hk5.row HO.out (show (n + 1 + 1 + 1 + 1) ≠ (n + 1 + 1 + 1) by omega); have hco := row4_cell hor; have hfo := row4_frozen hor 3) | (go_at_call 95; first | ((with_reducible refine (term_at _ (n + 1 + 1 + 1) n (n + 1) 0 3 1 0 3 (o0 || o1 || o2) false p.a q.d z0 t0 ci0 ci3 ds1 cl0 cl3 HF0d.out (rp0 _ (by first | exact But2.of (but_drew _ _) | exact But2.of (by assumption))) (rq3 _ (by first | exact But2.of (but_drew _ _) | exact But2.of (by assumption))) (by omega) (by omega) HZ0.out).mono ?_); rintro e w1 ⟨rfl, hf1, hb1⟩; have hk1 : But (n + 1 + 1 + 1) W w1 := (but_drew _ _).trans hb1) | ((with_reducible refine (term_at _ (n + 1 + 1 + 1) n (n + 1) 1 2 1 1 2 ((o0 || o1 || o2) || t0) false p.b q.c z1 t1 ci1 ci2 ds1 cl1 cl2 hf1 (rp1 _ (by first | exact But2.of (but_drew _ _) | exact But2.of (by assumption))) (rq2 _ (by first | exact But2.of (but_drew _ _) | exact But2.of (by assumption))) (by omega) (by omega) HZ1.out).mono ?_); rintro e w2 ⟨rfl, hf2, hb2⟩; have hk2 : But (n + 1 + 1 + 1) W w2 := (hk1).trans hb2) | ((with_reducible refine (term_at _ (n + 1 + 1 + 1) n (n + 1) 2 1 (-1) 2 1 (((o0 || o1 || o2) || t0) || t1) true p.c q.b z2 t2 ci2 ci1 dsm cl2 cl1 hf2 (rp2 _ (by first | exact But2.of (but_drew _ _) | exact But2.of (by assumption))) (rq1 _ (by first | exact But2.of (but_drew _ _) | exact But2.of (by assumption))) (by omega) (by omega) HZ2.out).mono ?_); rintro e w3 ⟨rfl, hf3, hb3⟩; have hk3 : But (n + 1 + 1 + 1) W w3 := (hk2).trans hb3) | ((with_reducible refine (term_at _ (n + 1 + 1 + 1) n (n + 1) 3 0 1 3 0 ((((o0 || o1 || o2) || t0) || t1) || t2) false p.d q.a z3 t3 ci3 ci0 ds1 cl3 cl0 hf3 (rp3 _ (by first | exact But2.of (but_drew _ _) | exact But2.of (by assumption))) (rq0 _ (by first | exact But2.of (but_drew _ _) | exact But2.of (by assumption))) (by omega) (by omega) HZ3.out).mono ?_); rintro e w4 ⟨rfl, hf4, hb4⟩; have hk4 : But (n + 1 + 1 + 1) W w4 := (hk3).trans hb4)))) | fail
        go_wp2_with fail
        go_roundg (0)
        case measure => omega
        case rel => exact ⟨4, by omega, by omega, rfl, HM.out.step (hKW.trans hk5) (by have := hf5; simpa [bUp, Bool.or_assoc, ← HS.out.2] using this) rfl rfl⟩
    · have h4 : i = 4 := by omega
      subst h4
      have hc0 : ((4 : Nat) : Int) = 4 := rfl
      have hoc := row4_cell HM.out.o
      have hrc := row4_cell HM.out.r
      have hof := row4_frozen HM.out.o
      have hrf := row4_frozen HM.out.r
      have hfc := HM.out.fl.cell
      simp only [bUp] at hfc
      go_wp2_with fail
      go_region
      go_wp2_with fail
      refine bodyPost_ret (results_row1 rfl _ _ (n + 1 + 1) 56 #[.int .i64 y0, .int .i64 y1, .int .i64 y2, .int .i64 y3] (0, 0) _ rfl (by have h := heap_store4 wr (n + 1 + 1) _ _ _ _ (.int .i64 y0) (.int .i64 y1) (.int .i64 y2) (.int .i64 y3) _ HM.out.r; exact h) Try.underlying56 rfl (by kernel_rfl)) rfl ⟨rfl, ?_⟩
      rw [hn]
      exact ((((HM.out.below.setCell (by show n ≤ n + 1 + 1; omega) _).setCell (by show n ≤ n + 1 + 1; omega) _).setCell (by show n ≤ n + 1 + 1; omega) _).setCell (by show n ≤ n + 1 + 1; omega) _).drew

end Go.Proofs.Ytijohedhbbddjaa
