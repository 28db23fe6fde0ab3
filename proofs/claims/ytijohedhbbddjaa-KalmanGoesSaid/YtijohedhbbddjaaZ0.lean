/- Texts of this claim, part 1: contracts of the functions that the law reaches. -/
import Derived.Test.YtijohedhbbddjaaRows
import Derived.WalkKit
import Derived.WalkSpells
import Derived.WalkLawsBesides
import Derived.BigGuardPart
import Derived.Lib.Hide
import Derived.Deep.DeepCutAuto
import Derived.Deep.RegionHeld3
import Derived.Deep.LoopGhost
import Derived.Deep.MidRow
namespace Go.Proofs.Ytijohedhbbddjaa
open Go.RowKit

theorem below1 (w : World) (o : Obj) : Below w.heap.size w (w.alloc o) := (Below.refl _ _).alloc (Nat.le_refl _) _

theorem below_trans2 {w a b : World} (h1 : Below w.heap.size w a) (h2 : Below a.heap.size a b) : Below w.heap.size w b := h1.trans (h2.mono h1.size)
theorem below_tr {B : Nat} {w a b : World} (h2 : Below B a b) (h1 : Below B w a) : Below B w b := h1.trans h2
theorem below_tr2 {w a b : World} (h2 : Below a.heap.size a b) (h1 : Below w.heap.size w a) : Below w.heap.size w b := below_trans2 h1 h2
theorem below_drew (w : World) : Below w.heap.size w w.drew := (Below.refl _ _).drew
theorem cells_later {w : World} {a : Addr} {v : Value} (h : w.cell? a = some v) : ∀ w', Below w.heap.size w w' → w'.cell? a = some v := fun _ hb => cell_later hb h

theorem ret2 {a b : Int} {c d : Bool} (h : a = b) (h2 : c = d) : Ending.returned (.tuple #[.int .i64 a, .bool c]) = .returned (.tuple #[.int .i64 b, .bool d]) := by rw [h, h2]
theorem ret3 {a b a' b' : Int} {c d : Bool} (h : a = b) (h' : a' = b') (h2 : c = d) : Ending.returned (.tuple #[.int .i64 a, .int .i64 a', .bool c]) = .returned (.tuple #[.int .i64 b, .int .i64 b', .bool d]) := by rw [h, h', h2]
theorem retI {k : IntKind} {a b : Int} (h : a = b) : Ending.returned (.int k a) = .returned (.int k b) := by rw [h]
theorem retB {a b : Bool} (h : a = b) : Ending.returned (.bool a) = .returned (.bool b) := by rw [h]

/-- A function value of the program's own is entered. -/
def Enters (f : FuncId) : Prop := ∀ (args : Array Value) (w : World), (callFunc f args).run Try.prog w = .ok (.enter f args) w

theorem enters_of {f : FuncId} {fn : Func} (h : Try.prog.funcs[f]? = some fn) (hn : (fn.name == "runtime.NumGoroutine") = false) (hb : fn.body.isNone = false) : Enters f := by
  intro args w
  unfold callFunc
  rw [Sem.run_bind]
  have : (program).run Try.prog w = .ok Try.prog w := rfl
  rw [this]
  simp only [Result.andThen_ok, h, hn, hb, Bool.false_eq_true, if_false]
  rfl

theorem wpList_call_value {P : Program} {ops : Array Oper} {rest : List Oper} {o : Oper} {a : Act} {Q : Exit → Act → World → Prop} {w : World} (hg : o.guard = none) (x : Operand) (args : Array Operand) (ats : Array TypeId)
    (ho : o.op = .call { callee := .value x, args := args, argTypes := ats }) (f : FuncId) (caps : Array Value) (hx : a.eval x = .func (.func f) #[] caps)
    (hf : ∀ (args : Array Value) (w : World), (callFunc f args).run P w = .ok (.enter f args) w)
    (l : List Value) (hl : args.toList.map a.eval = l)
    (h : Calls P f (l.toArray ++ caps) w fun
      | .returned v, w'' => wpList P ops Q rest (a.put o.dst v) w''
      | .panicked chain, w'' => Q (.panic chain) a w''
      | .outgrown, _ => LetsOut Q) : wpList P ops Q (o :: rest) a w := by
  have hl' : l.toArray = args.map a.eval := by rw [← hl]; apply Array.toList_inj.1; simp
  rw [hl'] at h
  refine wpList_plain hg fun K hK => ?_
  have hres : ∀ t, resolve a.eval { callee := .value x, args := args, argTypes := ats } t = pure { target := .fn (.func f) caps, args := args.map a.eval } := by
    intro t
    simp only [resolve, hx, Deferred.ofValue, Array.empty_append]
  have hrun : (execOp a.eval o).run P w = .ok (.enter f (args.map a.eval ++ caps)) w := by
    unfold execOp
    rw [ho]
    show (do let d ← resolve a.eval { callee := .value x, args := args, argTypes := ats } o.type; invoke d.target d.args : Sem Next).run P w = _
    rw [hres]
    exact hf _ _
  unfold Oper.wp
  rw [hrun, Oper.upon_enter]
  refine h.mono fun e w' hr => ?_
  cases e with
  | returned v => exact hK _ _ hr
  | panicked chain => exact hr
  | outgrown => exact hr

/- RESULTS THAT LIE IN MEMORY -/
section
variable {P : Program}
theorem results_row {fn : Func} {p : Tmp} {ty : TypeId} (h : fn.results = #[.cell p ty]) (tmps : Array Value) (w : World) (g : Nat) (t : TypeId) (cs : Array Value) (fr : Nat × Nat) (d : TypeDesc)
    (hp : tmps.getD p undef = .pointer (some ⟨g, 0, none⟩)) (hg : w.heap[g]? = some (.cells cs t fr))
    (hu : P.underlying ty = some d) (hd : (match d with | .struct _ | .array _ _ => true | _ => false) = true) (hi : (P.info? ty).map (·.size) = some cs.size) :
    (results fn tmps).run P w = .ok (.agg cs) w := results_cell_row h tmps w g t cs fr d hp hg hu hd hi
theorem results_row1 {fn : Func} {p u : Tmp} {ty : TypeId} (h : fn.results = #[.cell p ty, .tmp u]) (tmps : Array Value) (w : World) (g : Nat) (t : TypeId) (cs : Array Value) (fr : Nat × Nat) (d : TypeDesc)
    (hp : tmps.getD p undef = .pointer (some ⟨g, 0, none⟩)) (hg : w.heap[g]? = some (.cells cs t fr))
    (hu : P.underlying ty = some d) (hd : (match d with | .struct _ | .array _ _ => true | _ => false) = true) (hi : (P.info? ty).map (·.size) = some cs.size) :
    (results fn tmps).run P w = .ok (.tuple #[.agg cs, tmps.getD u undef]) w := by
  have hp' : tmps[p]?.getD undef = .pointer (some ⟨g, 0, none⟩) := by simpa using hp
  simp [results, h, hp', asAddr, run_loadVar_row w g t ty cs fr d hg hu hd hi]
theorem results_row2 {fn : Func} {p u v : Tmp} {ty : TypeId} (h : fn.results = #[.cell p ty, .tmp u, .tmp v]) (tmps : Array Value) (w : World) (g : Nat) (t : TypeId) (cs : Array Value) (fr : Nat × Nat) (d : TypeDesc)
    (hp : tmps.getD p undef = .pointer (some ⟨g, 0, none⟩)) (hg : w.heap[g]? = some (.cells cs t fr))
    (hu : P.underlying ty = some d) (hd : (match d with | .struct _ | .array _ _ => true | _ => false) = true) (hi : (P.info? ty).map (·.size) = some cs.size) :
    (results fn tmps).run P w = .ok (.tuple #[.agg cs, tmps.getD u undef, tmps.getD v undef]) w := by
  have hp' : tmps[p]?.getD undef = .pointer (some ⟨g, 0, none⟩) := by simpa using hp
  simp [results, h, hp', asAddr, run_loadVar_row w g t ty cs fr d hg hu hd hi]
end

/- WHAT IS OWNED, AND WHAT IS READ LATER -/
theorem ownsRow_later {w w' : World} {base : Nat} {e : TypeId} {size : Nat} {v : Value} {n : Nat} {xs : List Value} (h : w.ownsRow base e size v n xs) (hb : Below w.heap.size w w') : w'.ownsRow base e size v n xs := by
  refine ⟨h.1, ?_⟩
  rcases h.2 with h2 | ⟨g, cap, cur, hv, hg, hh, r⟩
  · exact Or.inl h2
  · exact Or.inr ⟨g, cap, cur, hv, hg, by rw [hb.block g (Array.getElem?_eq_some_iff.1 hh).1]; exact hh, r⟩
theorem block_later {w w' : World} {b : Nat} {o : Obj} (h : w.heap[b]? = some o) (hb : Below w.heap.size w w') : w'.heap[b]? = some o := by
  rw [hb.block b (lt_of_block h)]; exact h
theorem ownsRow_base {w : World} {base base' : Nat} {e : TypeId} {size : Nat} {v : Value} {n : Nat} {xs : List Value} (h : w.ownsRow base e size v n xs) (hb : base' ≤ base) : w.ownsRow base' e size v n xs := by
  refine ⟨h.1, ?_⟩
  rcases h.2 with h2 | ⟨g, cap, cur, hv, hg, r⟩
  · exact Or.inl h2
  · exact Or.inr ⟨g, cap, cur, hv, by omega, r⟩
theorem ownsRow_form {w : World} {base : Nat} {e : TypeId} {size : Nat} {v : Value} {n : Nat} {xs : List Value} (h : w.ownsRow base e size v n xs) : ∃ ao cap, v = .slice ao n cap := by
  rcases h.2 with ⟨rfl, rfl⟩ | ⟨g, cap, cur, rfl, _⟩
  · exact ⟨none, 0, rfl⟩
  · exact ⟨_, cap, rfl⟩
theorem news1 (w : World) (x : Value) (t : TypeId) : ∀ j u, [x][j]? = some u → (w.alloc (.cells #[x] t)).cell? ((⟨w.heap.size, 0, none⟩ : Addr).add j) = some u := by
  intro j u hj
  match j, hj with
  | 0, hj => simp at hj; subst hj; simp [Addr.add]
theorem one1 (k : IntKind) (x : Int) : ∀ u ∈ [Value.int k x], u.oneCell' = true := by simp [Value.oneCell']

theorem heap_at (w : World) (o : Obj) (n : Nat) (h : n = w.heap.size) : (w.alloc o).heap[n]? = some o := by subst h; exact heap_alloc_new w o
theorem heap_old (w : World) (o : Obj) (n : Nat) (h : n < w.heap.size) : (w.alloc o).heap[n]? = w.heap[n]? := Below.heap_alloc w o n h
theorem below2 (w : World) (a b : Obj) : Below w.heap.size w ((w.alloc a).alloc b) := (below1 w a).alloc (by simp) b
theorem below3 (w : World) (a b c : Obj) : Below w.heap.size w (((w.alloc a).alloc b).alloc c) := (below2 w a b).alloc (by simp; omega) c
theorem below4 (w : World) (a b c d : Obj) : Below w.heap.size w ((((w.alloc a).alloc b).alloc c).alloc d) := (below3 w a b c).alloc (by simp; omega) d
theorem bcell {W w1 : World} (hb : Below W.heap.size W w1) : (∀ b o, b < W.heap.size → w1.cell? ⟨b, o, none⟩ = W.cell? ⟨b, o, none⟩) ∧ (∀ b o, b < W.heap.size → w1.frozen? ⟨b, o, none⟩ = W.frozen? ⟨b, o, none⟩) :=
  ⟨fun b o h => hb.cell (p := ⟨b, o, none⟩) h, fun b o h => hb.frozen (p := ⟨b, o, none⟩) h⟩
/-- Three cells stored, one behind the other, into a block of three. -/
theorem heap_store3 (w : World) (g : Nat) (a b c x y z : Value) (t : TypeId) (hg : w.heap[g]? = some (.cells #[a, b, c] t (0, 0))) :
    (((w.setCell ⟨g, 0, none⟩ x).setCell ⟨g, 1, none⟩ y).setCell ⟨g, 2, none⟩ z).heap[g]? = some (.cells #[x, y, z] t (0, 0)) := by
  have g1 := heap_setCell_same _ _ 0 _ _ x hg
  have g2 := heap_setCell_same _ _ 1 _ _ y g1
  have g3 := heap_setCell_same _ _ 2 _ _ z g2
  exact g3

/-- A slice of Q's, as it reads: its numbers, one a cell. -/
def QS (w : World) (v : Value) (xs : List Int) : Prop :=
  ∃ ao cap, v = .slice ao xs.length cap ∧ xs.length ≤ cap ∧ ∀ i x, xs[i]? = some x → ∃ b off, ao = some ⟨b, off, none⟩ ∧ w.cell? ⟨b, off + i, none⟩ = some (.int .i64 x)

theorem QS.later {w w' : World} {v : Value} {xs : List Int} (h : QS w v xs) (hb : Below w.heap.size w w') : QS w' v xs := by
  obtain ⟨ao, cap, rfl, hc, hx⟩ := h
  refine ⟨ao, cap, rfl, hc, fun i x hi => ?_⟩
  obtain ⟨b, off, rfl, hcell⟩ := hx i x hi
  exact ⟨b, off, rfl, cell_later hb hcell⟩
theorem QS.of_owns {w : World} {base : Nat} {t : TypeId} {v : Value} {n : Nat} {xs : List Int} (h : w.ownsRow base t 1 v n (xs.map (Value.int .i64))) : QS w v xs := by
  have hl : xs.length = n := by have := h.1; simpa using this
  rcases h.2 with ⟨rfl, rfl⟩ | ⟨g, cap, cur, rfl, hg, hh, hn, hm, hs, ht⟩
  · refine ⟨none, 0, by rw [hl], by omega, fun i x hi => ?_⟩
    have : i < xs.length := (List.getElem?_eq_some_iff.1 hi).1
    omega
  · refine ⟨some ⟨g, 0, none⟩, cap, by rw [hl], by omega, fun i x hi => ⟨g, 0, rfl, ?_⟩⟩
    have hlt : i < xs.length := (List.getElem?_eq_some_iff.1 hi).1
    rw [Nat.zero_add, cell_of_row _ _ _ _ _ _ hh]
    have : (xs.map (Value.int .i64))[i]? = some (.int .i64 x) := by simp [hi]
    rw [← ht, List.getElem?_take, if_pos (by omega)] at this
    simpa using this
theorem QS.cell {w : World} {v : Value} {xs : List Int} (h : QS w v xs) {i : Nat} (hi : i < xs.length) : ∃ b off cap, v = .slice (some ⟨b, off, none⟩) xs.length cap ∧ w.cell? ⟨b, off + i, none⟩ = some (.int .i64 xs[i]) := by
  obtain ⟨ao, cap, rfl, hc, hx⟩ := h
  obtain ⟨b, off, rfl, hcell⟩ := hx i xs[i] (by simp [hi])
  exact ⟨b, off, cap, rfl, hcell⟩

end Go.Proofs.Ytijohedhbbddjaa

namespace Go.Proofs.Ytijohedhbbddjaa
open Go.RowKit

theorem below_set3 {w w1 : World} {g : Nat} (h : Below w.heap.size w w1) (hg : w.heap.size ≤ g) (x y z : Value) :
    Below w.heap.size w (((w1.setCell ⟨g, 0, none⟩ x).setCell ⟨g, 1, none⟩ y).setCell ⟨g, 2, none⟩ z) := ((h.setCell hg _).setCell hg _).setCell hg _
theorem owns_set3 {w : World} {g base : Nat} {e : TypeId} {size : Nat} {v : Value} {n : Nat} {xs : List Value} (h : w.ownsRow base e size v n xs) (hg : g < base) (x y z : Value) :
    (((w.setCell ⟨g, 0, none⟩ x).setCell ⟨g, 1, none⟩ y).setCell ⟨g, 2, none⟩ z).ownsRow base e size v n xs :=
  ownsRow_setCell_below (ownsRow_setCell_below (ownsRow_setCell_below h hg _) hg _) hg _

theorem below_al {w a : World} (h : Below w.heap.size w a) (o : Obj) : Below w.heap.size w (a.alloc o) := h.alloc h.size o
theorem below_drewN' {B : Nat} {a w : World} (h : Below B a w) (n : Nat) : Below B a (w.drewN n) := h.trans ⟨rfl, rfl, rfl, Nat.le_refl _, fun _ _ => rfl⟩

end Go.Proofs.Ytijohedhbbddjaa
