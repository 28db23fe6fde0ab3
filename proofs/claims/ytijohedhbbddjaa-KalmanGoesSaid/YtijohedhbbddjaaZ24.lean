/- Texts of this claim, part 25: contracts of the functions that the law reaches. -/
import Derived.Test.YtijohedhbbddjaaZ23
import Derived.StillTail
namespace Go

section
variable {P : Program} {ops : Array Oper} {Q : Exit → Act → World → Prop} {md : Region.Mode} {S : World → Prop}

/-- Whatever order is picked, and S holds behind every operation below n. -/
def wpAnyG (P : Program) (md : Region.Mode) (ops : Array Oper) (Q : Exit → Act → World → Prop) (S : World → Prop) (n : Nat) : Nat → Array Bool → Act → World → Prop
  | 0, listed, a, w => Region.ready md ops listed = [] ∧ Q .normal a w
  | fuel + 1, listed, a, w =>
    (Region.ready md ops listed = [] → Q .normal a w) ∧
    ∀ i ∈ Region.ready md ops listed, wpOp P ops Q i (fun a' w' => (i < n → S w') ∧ wpAnyG P md ops Q S n fuel (listed.setIfInBounds i true) a' w') a w

theorem wpAny_of_upto {n : Nat} : ∀ (fuel : Nat) (listed : Array Bool) (a : Act) (w : World), wpAnyG P md ops Q S n fuel listed a w → wpAny P md ops Q fuel listed a w
  | 0, _, _, _, h => h
  | fuel + 1, _, _, _, h => ⟨h.1, fun i hi => wpOp_mono (fun a' w' h' => wpAny_of_upto fuel _ a' w' h'.2) (h.2 i hi)⟩

theorem wpAnyG_first {n i : Nat} {oi : Oper} {v : Value} (hi : ops[i]? = some oi) (hsel : ∀ (j : Nat) (o : Oper) cs b, ops[j]? = some o → o.op ≠ .select cs b)
    (hQ : ∀ c a w, Q (.panic c) (a.put oi.dst v) w → Q (.panic c) a w)
    (hs : Region.sinkB md ops n = true) (hc : Region.chainB md ops n = true) (hn : n < ops.size) (hin : i < n) :
    ∀ (fuel : Nat) (listed : Array Bool) (a : Act) (w : World), HeadInv md ops n listed →
      (∀ j oj, ops[j]? = some oj → j ≠ i → listed.getD j true = false → (∀ e ∈ oj.after, Region.binds md e = true → e.on ≠ i) → oi.apart ops oj = true) →
      i ∈ Region.ready md ops listed → YieldsIf P ops S oi v a → S w →
      wpAnyG P md ops Q S n fuel (listed.setIfInBounds i true) (a.put oi.dst v) w → wpAnyG P md ops Q S n (fuel + 1) listed a w := by
  intro fuel
  induction fuel with
  | zero =>
    intro listed a w _ _ hr hy hS H
    refine ⟨fun h => (by rw [h] at hr; cases hr), fun j hj => ?_⟩
    by_cases hji : j = i
    · subst hji; exact hy.wpOp hi hS ⟨fun _ => hS, H⟩
    · have := ready_mono hj hji
      rw [H.1] at this
      cases this
  | succ fuel ih =>
    intro listed a w inv hfree hr hy hS H
    refine ⟨fun h => (by rw [h] at hr; cases hr), fun j hj => ?_⟩
    have hjn : j < n := by
      rcases Nat.lt_or_ge j n with h | h
      · exact h
      · exact absurd hj (tail_waits hs hc hn inv _ i rfl hin (mem_ready.1 hr).1 j h)
    by_cases hji : j = i
    · subst hji; exact hy.wpOp hi hS ⟨fun _ => hS, H⟩
    · have h1 := H.2 j (ready_mono hj hji)
      obtain ⟨hjun, oj, hoj, hall⟩ := mem_ready.1 hj
      have hnot : ∀ e ∈ oj.after, Region.binds md e = true → e.on ≠ i := fun e he hb heq => by
        have h1 := hall e he hb
        have h0 := (mem_ready.1 hr).1
        rw [heq, getD_both h0] at h1
        cases h1
      have h2 := wpOp_putIf hoj (hfree j oj hoj hji hjun hnot) (fun cs b => hsel i oi cs b hi) (fun cs b => hsel j oj cs b hoj) hQ hy h1
      have hfree' : ∀ k ok, ops[k]? = some ok → k ≠ i → (listed.setIfInBounds j true).getD k true = false →
          (∀ e ∈ ok.after, Region.binds md e = true → e.on ≠ i) → oi.apart ops ok = true := fun k ok hk hki hun hno => by
        refine hfree k ok hk hki ?_ hno
        by_cases hjk : j = k
        · subst hjk; exact hjun
        · rw [getD_set_ne true hjk] at hun; exact hun
      refine wpOp_mono (fun a' w' h3 => ⟨h3.2.1, ih (listed.setIfInBounds j true) a' w' (inv.set hj hjn) hfree' (ready_mono hr (Ne.symm hji)) h3.1 (h3.2.1 hjn) ?_⟩) h2
      rw [Array.setIfInBounds_comm _ _ hji]
      exact h3.2.2

/-- HeadInv as a Bool. -/
def headB (md : Region.Mode) (ops : Array Oper) (n : Nat) (listed : Array Bool) : Bool :=
  (listed.size == ops.size) && ((List.range ops.size).all fun j => !(listed.getD j false) || (match ops[j]? with | some oj => oj.after.all fun e => !(Region.binds md e) || listed.getD e.on false | none => true)) &&
    ((List.range ops.size).all fun t => decide (t < n) || !(listed.getD t true))

theorem headB_inv {n : Nat} {listed : Array Bool} (h : headB md ops n listed = true) : HeadInv md ops n listed := by
  unfold headB at h
  simp only [Bool.and_eq_true, beq_iff_eq, List.all_eq_true, List.mem_range] at h
  obtain ⟨⟨h1, h2⟩, h3⟩ := h
  refine ⟨h1, fun j oj hj hl e he hb => ?_, fun t ht htl => ?_⟩
  · have h4 := h2 j (Array.getElem?_eq_some_iff.1 hj).1
    rw [hl, hj] at h4
    simp only [Bool.not_true, Bool.false_or] at h4
    have h5 := Array.all_eq_true'.1 h4 e he
    rw [hb] at h5
    simpa using h5
  · have h4 := h3 t htl
    simp only [Bool.or_eq_true, decide_eq_true_eq, Bool.not_eq_true'] at h4
    rcases h4 with h4 | h4
    · omega
    · exact h4

/-- Take number i first. -/
theorem wpAnyG_take {n i : Nat} {oi : Oper} {v : Value} {fuel : Nat} {listed : Array Bool} {a : Act} {w : World} (hi : ops[i]? = some oi)
    (hs : Region.noSelect ops = true) (hsk : (Region.sinkB md ops n && Region.chainB md ops n && decide (n < ops.size) && decide (i < n) && headB md ops n listed) = true)
    (hf : Region.free md ops listed i = true) (hr : (Region.ready md ops listed).contains i = true)
    (hQ : ∀ c a w, Q (.panic c) (a.put oi.dst v) w → Q (.panic c) a w) (hy : YieldsIf P ops S oi v a) (hS : S w)
    (h : wpAnyG P md ops Q S n fuel (listed.setIfInBounds i true) (a.put oi.dst v) w) : wpAnyG P md ops Q S n (fuel + 1) listed a w := by
  simp only [Bool.and_eq_true, decide_eq_true_eq] at hsk
  obtain ⟨⟨⟨⟨h1, h2⟩, h3⟩, h4⟩, h5⟩ := hsk
  exact wpAnyG_first hi (Region.noSelect_spec hs) hQ h1 h2 h3 h4 fuel listed a w (headB_inv h5) (Region.free_spec hi hf) (by simpa using hr) hy hS h

/-- One alone may come up. -/
theorem wpAnyG_one {n i : Nat} {o : Oper} {fuel : Nat} {listed : Array Bool} {a : Act} {w : World} (ho : ops[i]? = some o) (hr : Region.ready md ops listed = [i])
    (h : ∀ K' : Act → World → Prop, Shut (∀ a w, (i < n → S w) → ((i < n → S w) → wpAnyG P md ops Q S n fuel (listed.setIfInBounds i true) a w) → K' a w) → if Region.wanted o (yielded ops a.tmps) = true then Oper.wp P o a w K' Q else K' (a.put o.dst undef) w) :
    wpAnyG P md ops Q S n (fuel + 1) listed a w :=
  ⟨fun h0 => (by rw [hr] at h0; cases h0), fun j hj => by
    rw [hr] at hj
    rcases List.mem_cons.1 hj with rfl | hj
    · exact wpOp_step ho (fun K' hK => h K' (fun a w hS hW => hK a w ⟨hS, hW hS⟩))
    · cases hj⟩

/-- All have come up. -/
theorem wpAnyG_done {n : Nat} {listed : Array Bool} {a : Act} {w : World} (hr : Region.ready md ops listed = []) (h : Q .normal a w) :
    ∀ fuel, wpAnyG P md ops Q S n fuel listed a w
  | 0 => ⟨hr, h⟩
  | _ + 1 => ⟨fun _ => h, by rw [hr]; simp⟩

theorem wp_region_upto {n id : Nat} {a : Act} {w : World} (hm : P.follows .mixedOrders = true) (hS : S w.drew)
    (h : S w.drew → wpAnyG P .any ops Q S n ops.size (Array.replicate ops.size false) a w.drew) : (Code.region id ops true).wp P Q a w :=
  wp_region_any hm (wpAny_of_upto _ _ _ _ (h hS))

end
end Go

namespace Go

def opAtL : List Oper → Nat → Option Oper
  | [], _ => none
  | o :: _, 0 => some o
  | _ :: l, n + 1 => opAtL l n
theorem opAtL_get : ∀ (l : List Oper) (i : Nat), opAtL l i = l[i]?
  | [], i => by cases i <;> rfl
  | o :: l, 0 => rfl
  | o :: l, n + 1 => by simpa [opAtL] using opAtL_get l n
theorem opAtL_ops {ops : Array Oper} {i : Nat} {o : Oper} (h : opAtL ops.toList i = some o) : ops[i]? = some o := by
  rw [opAtL_get] at h
  simpa using h

/-- take: it yields, whenever it comes; alt: it comes up now, or one of those behind it does. -/
inductive Plan where
  | done
  | take (i : Nat) (p : Plan)
  | alt (i : Nat) (p q : Plan)
  | stop
def Plan.heads : Plan → List Nat
  | .alt i _ q => i :: q.heads
  | _ => []
def Plan.depth : Plan → Nat
  | .take _ p => p.depth + 1
  | .alt _ p q => max (p.depth + 1) q.depth
  | _ => 0
def planB (md : Region.Mode) (ops : Array Oper) : Bool → Array Bool → Plan → Bool
  | false, L, .done => (Region.ready md ops L).isEmpty
  | false, L, .take i p => Region.free md ops L i && (Region.ready md ops L).contains i && planB md ops false (L.setIfInBounds i true) p
  | false, L, .alt i p q => Region.ready md ops L == i :: q.heads && planB md ops false (L.setIfInBounds i true) p && planB md ops true L q
  | true, L, .alt i p q => planB md ops false (L.setIfInBounds i true) p && planB md ops true L q
  | true, _, .stop => true
  | _, _, _ => false

section
variable {P : Program} {ops : Array Oper} {Q : Exit → Act → World → Prop} {md : Region.Mode} {S : World → Prop}

def wpPlan (P : Program) (ops : Array Oper) (Q : Exit → Act → World → Prop) (S : World → Prop) : Plan → Act → World → Prop
  | .done, a, w => Q .normal a w
  | .take i p, a, w => ∃ oi v, ops[i]? = some oi ∧ YieldsIf P ops S oi v a ∧ wpPlan P ops Q S p (a.put oi.dst v) w
  | .alt i p q, a, w => wpOp P ops Q i (fun a' w' => S w' ∧ wpPlan P ops Q S p a' w') a w ∧ wpPlan P ops Q S q a w
  | .stop, _, _ => True

theorem wpPlan_alts {fuel : Nat} {L : Array Bool} {a : Act} {w : World} :
    ∀ (q : Plan), planB md ops true L q = true → q.depth ≤ fuel + 1 → wpPlan P ops Q S q a w →
      (∀ (i : Nat) (p : Plan) (L' : Array Bool) (a' : Act) (w' : World), planB md ops false L' p = true → p.depth ≤ fuel → S w' → wpPlan P ops Q S p a' w' → wpAnyH P md ops Q S fuel L' a' w') →
      ∀ i ∈ q.heads, wpOp P ops Q i (fun a' w' => S w' ∧ wpAnyH P md ops Q S fuel (L.setIfInBounds i true) a' w') a w
  | .alt i p q, hb, hd, h, ih, j, hj => by
    simp only [planB, Bool.and_eq_true] at hb
    simp only [Plan.depth] at hd
    rcases List.mem_cons.1 hj with rfl | hj
    · exact wpOp_mono (fun a' w' hh => ⟨hh.1, ih j p _ a' w' hb.1 (by omega) hh.1 hh.2⟩) h.1
    · exact wpPlan_alts q hb.2 (by omega) h.2 ih j hj
  | .done, _, _, _, _, _, hj => by cases hj
  | .take _ _, _, _, _, _, _, hj => by cases hj
  | .stop, _, _, _, _, _, hj => by cases hj

theorem put_some (hQ : ∀ c a d v w, Q (.panic c) (a.put (some d) v) w → Q (.panic c) a w) (d : Option Tmp) (v : Value) (c) (a : Act) (w : World) (h : Q (.panic c) (a.put d v) w) : Q (.panic c) a w := by
  cases d with
  | none => exact h
  | some d => exact hQ _ _ _ _ _ h

theorem wpPlan_sound (hs : Region.noSelect ops = true) (hQ : ∀ c a d v w, Q (.panic c) (a.put (some d) v) w → Q (.panic c) a w) :
    ∀ (fuel : Nat) (p : Plan) (L : Array Bool) (a : Act) (w : World), planB md ops false L p = true → p.depth ≤ fuel → S w → wpPlan P ops Q S p a w → wpAnyH P md ops Q S fuel L a w
  | fuel, .done, L, a, w, hb, _, _, h => by
    simp only [planB] at hb
    exact wpAnyH_done (List.isEmpty_iff.1 hb) h fuel
  | 0, .take i p, L, a, w, hb, hd, hS, h => by simp [Plan.depth] at hd
  | fuel + 1, .take i p, L, a, w, hb, hd, hS, h => by
    simp only [planB, Bool.and_eq_true] at hb
    simp only [Plan.depth] at hd
    obtain ⟨oi, v, hi, hy, h⟩ := h
    exact wpAnyH_take hi hs hb.1.1 hb.1.2 (put_some hQ _ _) hy hS (wpPlan_sound hs hQ fuel p _ _ _ hb.2 (by omega) hS h)
  | 0, .alt i p q, L, a, w, hb, hd, hS, h => by simp only [Plan.depth] at hd; omega
  | fuel + 1, .alt i p q, L, a, w, hb, hd, hS, h => by
    simp only [planB, Bool.and_eq_true, beq_iff_eq] at hb
    simp only [Plan.depth] at hd
    refine wpAnyH_all hb.1.1 (by simp) (fun j hj => ?_)
    rcases List.mem_cons.1 hj with rfl | hj
    · exact wpOp_mono (fun a' w' hh => ⟨hh.1, wpPlan_sound hs hQ fuel p _ a' w' hb.1.2 (by omega) hh.1 hh.2⟩) h.1
    · exact wpPlan_alts q hb.2 (by omega) h.2 (fun i p L' a' w' h1 h2 h3 h4 => wpPlan_sound hs hQ fuel p L' a' w' h1 h2 h3 h4) j hj
  | _, .stop, L, a, w, hb, _, _, _ => by simp [planB] at hb

theorem wp_plan (p : Plan) {id : Nat} {a : Act} {w : World} (hm : P.follows .mixedOrders = true)
    (hb : (Region.noSelect ops && planB .any ops false (Array.replicate ops.size false) p && decide (p.depth ≤ ops.size)) = true)
    (hQ : ∀ c a d v w, Q (.panic c) (a.put (some d) v) w → Q (.panic c) a w) (hS : S w.drew) (h : S w.drew → wpPlan P ops Q S p a w.drew) : (Code.region id ops true).wp P Q a w := by
  simp only [Bool.and_eq_true, decide_eq_true_eq] at hb
  exact wp_region_held_drew hm hS (fun _ => wpPlan_sound hb.1.1 hQ _ p _ a _ hb.1.2 hb.2 hS (h hS))

theorem planTake {i : Nat} {p : Plan} {oi : Oper} {d : Option Tmp} {v : Value} {a : Act} {w : World} (hi : opAtL ops.toList i = some oi) (hd : oi.dst = d)
    (hw : Region.wanted oi (yielded ops a.tmps) = true) (hy : ∀ w, S w → (execOp a.eval oi).run P w = .ok (.value v) w) (h : wpPlan P ops Q S p (a.put d v) w) : wpPlan P ops Q S (.take i p) a w := by
  subst hd
  exact ⟨oi, v, opAtL_ops hi, Or.inl ⟨hw, hy⟩, h⟩
theorem planPass {i : Nat} {p : Plan} {oi : Oper} {d : Option Tmp} {a : Act} {w : World} (hi : opAtL ops.toList i = some oi) (hd : oi.dst = d)
    (hw : Region.wanted oi (yielded ops a.tmps) = false) (h : wpPlan P ops Q S p (a.put d undef) w) : wpPlan P ops Q S (.take i p) a w := by
  subst hd
  exact ⟨oi, undef, opAtL_ops hi, Or.inr ⟨hw, rfl⟩, h⟩
theorem planOne {i : Nat} {p q : Plan} {o : Oper} {a : Act} {w : World} (ho : opAtL ops.toList i = some o) (hw : Region.wanted o (yielded ops a.tmps) = true)
    (h : ∀ K' : Act → World → Prop, Shut (∀ a w, S w → (S w → wpPlan P ops Q S p a w) → K' a w) → Oper.wp P o a w K' Q) (hs : wpPlan P ops Q S q a w) : wpPlan P ops Q S (.alt i p q) a w :=
  ⟨wpOp_step (opAtL_ops ho) (fun K' hK => by rw [if_pos hw]; exact h K' (fun a w hS hW => hK a w ⟨hS, hW hS⟩)), hs⟩
theorem planNone {i : Nat} {p q : Plan} {o : Oper} {d : Option Tmp} {a : Act} {w : World} (ho : opAtL ops.toList i = some o) (hd : o.dst = d) (hw : Region.wanted o (yielded ops a.tmps) = false)
    (hS : S w) (h : wpPlan P ops Q S p (a.put d undef) w) (hs : wpPlan P ops Q S q a w) : wpPlan P ops Q S (.alt i p q) a w := by
  subst hd
  exact ⟨wpOp_step (opAtL_ops ho) (fun K' hK => by rw [if_neg (by rw [hw]; decide)]; exact hK _ _ ⟨hS, h⟩), hs⟩
theorem planStop {a : Act} {w : World} : wpPlan P ops Q S .stop a w := trivial

/-- The same, where the condition need not hold behind operations from n on: one way alone. -/
def planGB (md : Region.Mode) (ops : Array Oper) (n : Nat) : Array Bool → Plan → Bool
  | L, .done => (Region.ready md ops L).isEmpty
  | L, .take i p => decide (i < n) && headB md ops n L && Region.free md ops L i && (Region.ready md ops L).contains i && planGB md ops n (L.setIfInBounds i true) p
  | L, .alt i p .stop => Region.ready md ops L == [i] && planGB md ops n (L.setIfInBounds i true) p
  | _, _ => false
def wpPlanG (P : Program) (ops : Array Oper) (Q : Exit → Act → World → Prop) (S : World → Prop) (n : Nat) : Plan → Act → World → Prop
  | .done, a, w => Q .normal a w
  | .take i p, a, w => S w ∧ ∃ oi v, ops[i]? = some oi ∧ YieldsIf P ops S oi v a ∧ wpPlanG P ops Q S n p (a.put oi.dst v) w
  | .alt i p _, a, w => wpOp P ops Q i (fun a' w' => (i < n → S w') ∧ wpPlanG P ops Q S n p a' w') a w
  | .stop, _, _ => True
theorem wpPlanG_sound {n : Nat} (hs : Region.noSelect ops = true) (hq : (Region.sinkB md ops n && Region.chainB md ops n && decide (n < ops.size)) = true) (hQ : ∀ c a d v w, Q (.panic c) (a.put (some d) v) w → Q (.panic c) a w) :
    ∀ (fuel : Nat) (p : Plan) (L : Array Bool) (a : Act) (w : World), planGB md ops n L p = true → p.depth ≤ fuel → wpPlanG P ops Q S n p a w → wpAnyG P md ops Q S n fuel L a w
  | fuel, .done, L, a, w, hb, _, h => by
    simp only [planGB] at hb
    exact wpAnyG_done (List.isEmpty_iff.1 hb) h fuel
  | 0, .take i p, L, a, w, hb, hd, h => by simp [Plan.depth] at hd
  | fuel + 1, .take i p, L, a, w, hb, hd, h => by
    simp only [planGB, Bool.and_eq_true, decide_eq_true_eq] at hb
    simp only [Bool.and_eq_true, decide_eq_true_eq] at hq
    simp only [Plan.depth] at hd
    obtain ⟨hS, oi, v, hi, hy, h⟩ := h
    exact wpAnyG_take hi hs (by simp only [Bool.and_eq_true, decide_eq_true_eq]; exact ⟨⟨hq, hb.1.1.1.1⟩, hb.1.1.1.2⟩) hb.1.1.2 hb.1.2 (put_some hQ _ _) hy hS
      (wpPlanG_sound hs (by simp only [Bool.and_eq_true, decide_eq_true_eq]; exact hq) hQ fuel p _ _ _ hb.2 (by omega) h)
  | 0, .alt i p .stop, L, a, w, hb, hd, h => by simp only [Plan.depth] at hd; omega
  | fuel + 1, .alt i p .stop, L, a, w, hb, hd, h => by
    simp only [planGB, Bool.and_eq_true, beq_iff_eq] at hb
    simp only [Plan.depth] at hd
    refine ⟨fun h0 => (by rw [hb.1] at h0; cases h0), fun j hj => ?_⟩
    rw [hb.1] at hj
    rcases List.mem_cons.1 hj with rfl | hj
    · exact wpOp_mono (fun a' w' hh => ⟨hh.1, wpPlanG_sound hs hq hQ fuel p _ a' w' hb.2 (by omega) hh.2⟩) h
    · cases hj
  | _, .alt _ _ .done, _, _, _, hb, _, _ => by simp [planGB] at hb
  | _, .alt _ _ (.take _ _), _, _, _, hb, _, _ => by simp [planGB] at hb
  | _, .alt _ _ (.alt _ _ _), _, _, _, hb, _, _ => by simp [planGB] at hb
  | _, .stop, L, a, w, hb, _, _ => by simp [planGB] at hb
theorem wp_planG (n : Nat) (p : Plan) {id : Nat} {a : Act} {w : World} (hm : P.follows .mixedOrders = true)
    (hb : (Region.noSelect ops && (Region.sinkB .any ops n && Region.chainB .any ops n && decide (n < ops.size)) && planGB .any ops n (Array.replicate ops.size false) p && decide (p.depth ≤ ops.size)) = true)
    (hQ : ∀ c a d v w, Q (.panic c) (a.put (some d) v) w → Q (.panic c) a w) (hS : S w.drew) (h : S w.drew → wpPlanG P ops Q S n p a w.drew) : (Code.region id ops true).wp P Q a w := by
  simp only [Bool.and_eq_true, decide_eq_true_eq] at hb
  exact wp_region_upto hm hS (fun _ => wpPlanG_sound hb.1.1.1 (by simp only [Bool.and_eq_true, decide_eq_true_eq]; exact hb.1.1.2) hQ _ p _ a _ hb.1.2 hb.2 (h hS))
theorem planTakeG {n i : Nat} {p : Plan} {oi : Oper} {d : Option Tmp} {v : Value} {a : Act} {w : World} (hS : S w) (hi : opAtL ops.toList i = some oi) (hd : oi.dst = d)
    (hw : Region.wanted oi (yielded ops a.tmps) = true) (hy : ∀ w, S w → (execOp a.eval oi).run P w = .ok (.value v) w) (h : wpPlanG P ops Q S n p (a.put d v) w) : wpPlanG P ops Q S n (.take i p) a w := by
  subst hd
  exact ⟨hS, oi, v, opAtL_ops hi, Or.inl ⟨hw, hy⟩, h⟩
theorem planPassG {n i : Nat} {p : Plan} {oi : Oper} {d : Option Tmp} {a : Act} {w : World} (hS : S w) (hi : opAtL ops.toList i = some oi) (hd : oi.dst = d)
    (hw : Region.wanted oi (yielded ops a.tmps) = false) (h : wpPlanG P ops Q S n p (a.put d undef) w) : wpPlanG P ops Q S n (.take i p) a w := by
  subst hd
  exact ⟨hS, oi, undef, opAtL_ops hi, Or.inr ⟨hw, rfl⟩, h⟩
theorem planOneG {n i : Nat} {p : Plan} {o : Oper} {a : Act} {w : World} (ho : opAtL ops.toList i = some o) (hw : Region.wanted o (yielded ops a.tmps) = true)
    (h : ∀ K' : Act → World → Prop, Shut (∀ a w, (i < n → S w) → ((i < n → S w) → wpPlanG P ops Q S n p a w) → K' a w) → Oper.wp P o a w K' Q) : wpPlanG P ops Q S n (.alt i p .stop) a w :=
  wpOp_step (opAtL_ops ho) (fun K' hK => by rw [if_pos hw]; exact h K' (fun a w hS hW => hK a w ⟨hS, hW hS⟩))
end
end Go

namespace Go.Proofs.Ytijohedhbbddjaa
open Go.RowKit

def evenB (ps : List Int) (n : Nat) : Bool := decide (ps = transL ps n n)
def posTo (ps : List Int) (n k : Nat) : Bool := (List.range k).all fun i => decide (0 ≤ ps.getD (i * n + i) 0)
theorem posTo_succ (ps : List Int) (n k : Nat) : posTo ps n (k + 1) = (posTo ps n k && decide (0 ≤ ps.getD (k * n + k) 0)) := by simp [posTo, List.range_succ]
theorem posTo_no {ps : List Int} {n k m : Nat} (h : ps.getD (k * n + k) 0 < 0) (hk : k < m) : posTo ps n m = false := by
  unfold posTo
  rw [List.all_eq_false]
  exact ⟨k, List.mem_range.2 hk, by simpa using h⟩
/-- Is a track right? -/
def trackB (xr xc : Int) (xs : List Int) (pr pc : Int) (ps : List Int) : Bool :=
  rightB xr xc xs && (rightB pr pc ps && (decide (xc = 1) && (decide (pr = xr) && (decide (pc = xr) && (evenB ps xr.toNat && posTo ps xr.toNat xr.toNat)))))
theorem rightB_sizes {r c : Int} {xs : List Int} (h : rightB r c xs = true) : 1 ≤ r ∧ r ≤ 8 ∧ 1 ≤ c ∧ c ≤ 8 ∧ (xs.length : Int) = r * c := by
  unfold rightB at h
  rw [Bool.and_eq_true] at h
  exact of_decide_eq_true h.1
theorem rightB_inQ {r c : Int} {xs : List Int} (h : rightB r c xs = true) : InQ xs := by
  unfold rightB at h
  rw [Bool.and_eq_true] at h
  exact inQ_of (by simpa using h.2)

set_option maxRecDepth 100000 in
set_option maxHeartbeats 2000000 in
theorem kright_any (w : World) (xr xc pr pc : Int) (vx vp : Value) (xs ps : List Int) (hx : QS w vx xs) (hp : QS w vp ps) (hlx : xs.length ≤ 9223372036854775807) (hlp : ps.length ≤ 9223372036854775807) :
    Calls Try.prog 119 #[.agg #[.int .i64 xr, .int .i64 xc, vx, .int .i64 pr, .int .i64 pc, vp]] w fun e w' => e = .returned (.bool (trackB xr xc xs pr pc ps)) ∧ Below w.heap.size w w' := by
  obtain ⟨ax, cx, rfl, -⟩ := id hx
  obtain ⟨ap, cp, rfl, -⟩ := id hp
  have hX := fun (w : World) v h => right_any w xr xc v xs h hlx
  have hP := fun (w : World) v h => right_any w pr pc v ps h hlp
  have hT : trackB xr xc xs pr pc ps = trackB xr xc xs pr pc ps := rfl
  conv at hT => rhs; unfold trackB
  have hS1 := fun h => @rightB_sizes xr xc xs h
  have hS2 := fun h => @rightB_sizes pr pc ps h
  obtain ⟨c1, hc1⟩ : ∃ c, rightB xr xc xs = c := ⟨_, rfl⟩
  obtain ⟨c2, hc2⟩ : ∃ c, rightB pr pc ps = c := ⟨_, rfl⟩
  obtain ⟨tb, htb⟩ : ∃ c, trackB xr xc xs pr pc ps = c := ⟨_, rfl⟩
  rw [hc1] at hX hS1
  rw [hc2] at hP hS2
  rw [htb]
  rw [htb, hc1, hc2] at hT
  have HX := Lib.hid hX
  have HP := Lib.hid hP
  have HTB := Lib.hid hT
  have HS1 := Lib.hid hS1
  have HS2 := Lib.hid hS2
  clear hX hP hc1 hc2 hT htb hS1 hS2
  have e8 : ∀ x y : Int, (x != y) = !decide (x = y) := fun _ _ => rfl
  obtain ⟨s, hsz⟩ : ∃ s, w.heap.size = s := ⟨_, rfl⟩
  obtain ⟨W, hW⟩ : ∃ W, W = w.alloc (rowT xr xc ax xs.length cx pr pc ap ps.length cp) := ⟨_, rfl⟩
  have hbW : Below w.heap.size w W := by rw [hW]; exact below1 _ _
  have h0 : W.heap[s]? = some (rowT xr xc ax xs.length cx pr pc ap ps.length cp) := by rw [hW]; exact heap_at _ _ _ hsz.symm
  have HXs := Lib.hid (hx.later hbW)
  have HPs := Lib.hid (hp.later hbW)
  have HB := Lib.hid hbW
  have c := rowT_cell h0
  have r0 := cells_later c.1
  have r1 := cells_later c.2.1
  have r2 := cells_later c.2.2.1
  have r3 := cells_later c.2.2.2.1
  have r4 := cells_later c.2.2.2.2.1
  have r5 := cells_later c.2.2.2.2.2
  have hk0 := Below.refl W.heap.size W
  clear hx hp h0 c hbW
  go_enter Try.func119, Try.ntmps119
  go_upto_region 2 with fail
  unfold rowT at hW
  rw [← hW]
  clear hW
  cases c1
  · refine wp_plan (S := fun w' => Below W.heap.size W w') (.take 0 (.take 1 (.alt 2 (.take 3 (.take 4 (.take 5 (.take 6 (.take 7 (.take 8 (.take 9 (.take 10 (.take 11 (.take 12 (.take 13 (.take 14 (.take 15 (.take 16 (.take 17 (.take 18 (.take 19 (.take 20 (.take 21 (.take 22 (.take 23 (.take 24 (.take 25 (.take 26 (.take 27 (.take 28 (.take 29 (.take 30 (.take 31 (.take 32 (.take 33 (.take 34 (.take 35 (.take 36 (.take 37 (.take 38 .done)))))))))))))))))))))))))))))))))))) .stop))) (by kernel_rfl) (by kernel_rfl) (fun _ _ _ _ _ h => h) (below_drew _) (fun hHeld => ?_)
    iterate 2 (refine planTake rfl rfl (by rfl) (by intro w hSw; (try dsimp only at hSw); go_simp; try with_reducible rfl) ?_; simp only [Act.put, List.setIfInBounds_toArray, List.set_cons_zero, List.set_cons_succ])
    refine planOne rfl (by rfl) (fun K hK => ?_) planStop
    go_simp
    go_wp2_with ((go_at_call 32; refine (HX.out _ _ (HXs.out.later (below_drew _))).mono ?_; rintro e w1 ⟨rfl, hd1⟩; have hk1 : Below W.heap.size W w1 := below_trans2 (below_drew _) hd1))
    refine hK.out _ _ (by with_reducible assumption) (fun hHeld' => ?_)
    clear hK K hHeld
    have hHeld := hHeld'
    clear hHeld'
    try simp only [Act.put, List.setIfInBounds_toArray, List.set_cons_zero, List.set_cons_succ]
    iterate 2 (refine planTake rfl rfl (by rfl) (by intro w hSw; (try dsimp only at hSw); go_simp; try with_reducible rfl) ?_; simp only [Act.put, List.setIfInBounds_toArray, List.set_cons_zero, List.set_cons_succ])
    iterate 4 (refine planPass rfl rfl (by rfl) ?_; simp only [Act.put, List.setIfInBounds_toArray, List.set_cons_zero, List.set_cons_succ])
    iterate 2 (refine planTake rfl rfl (by rfl) (by intro w hSw; (try dsimp only at hSw); go_simp; try with_reducible rfl) ?_; simp only [Act.put, List.setIfInBounds_toArray, List.set_cons_zero, List.set_cons_succ])
    iterate 4 (refine planPass rfl rfl (by rfl) ?_; simp only [Act.put, List.setIfInBounds_toArray, List.set_cons_zero, List.set_cons_succ])
    iterate 2 (refine planTake rfl rfl (by rfl) (by intro w hSw; (try dsimp only at hSw); go_simp; try with_reducible rfl) ?_; simp only [Act.put, List.setIfInBounds_toArray, List.set_cons_zero, List.set_cons_succ])
    iterate 5 (refine planPass rfl rfl (by rfl) ?_; simp only [Act.put, List.setIfInBounds_toArray, List.set_cons_zero, List.set_cons_succ])
    iterate 2 (refine planTake rfl rfl (by rfl) (by intro w hSw; (try dsimp only at hSw); go_simp; try with_reducible rfl) ?_; simp only [Act.put, List.setIfInBounds_toArray, List.set_cons_zero, List.set_cons_succ])
    iterate 5 (refine planPass rfl rfl (by rfl) ?_; simp only [Act.put, List.setIfInBounds_toArray, List.set_cons_zero, List.set_cons_succ])
    iterate 2 (refine planTake rfl rfl (by rfl) (by intro w hSw; (try dsimp only at hSw); go_simp; try with_reducible rfl) ?_; simp only [Act.put, List.setIfInBounds_toArray, List.set_cons_zero, List.set_cons_succ])
    iterate 7 (refine planPass rfl rfl (by rfl) ?_; simp only [Act.put, List.setIfInBounds_toArray, List.set_cons_zero, List.set_cons_succ])
    (refine planTake rfl rfl (by rfl) (by intro w hSw; (try dsimp only at hSw); go_simp; try with_reducible rfl) ?_; simp only [Act.put, List.setIfInBounds_toArray, List.set_cons_zero, List.set_cons_succ])
    unfold wpPlan
    go_wp2_with fail
    go_ret
    exact ⟨retB (by rw [HTB.out]; simp), below_trans2 HB.out hk1⟩
  cases c2
  · refine wp_plan (S := fun w' => Below W.heap.size W w') (.take 0 (.take 1 (.alt 2 (.take 3 (.take 4 (.take 5 (.take 6 (.alt 7 (.take 8 (.take 9 (.take 10 (.take 11 (.take 12 (.take 13 (.take 14 (.take 15 (.take 16 (.take 17 (.take 18 (.take 19 (.take 20 (.take 21 (.take 22 (.take 23 (.take 24 (.take 25 (.take 26 (.take 27 (.take 28 (.take 29 (.take 30 (.take 31 (.take 32 (.take 33 (.take 34 (.take 35 (.take 36 (.take 37 (.take 38 .done))))))))))))))))))))))))))))))) .stop))))) .stop))) (by kernel_rfl) (by kernel_rfl) (fun _ _ _ _ _ h => h) (below_drew _) (fun hHeld => ?_)
    iterate 2 (refine planTake rfl rfl (by rfl) (by intro w hSw; (try dsimp only at hSw); go_simp; try with_reducible rfl) ?_; simp only [Act.put, List.setIfInBounds_toArray, List.set_cons_zero, List.set_cons_succ])
    refine planOne rfl (by rfl) (fun K hK => ?_) planStop
    go_simp
    go_wp2_with ((go_at_call 32; refine (HX.out _ _ (HXs.out.later (below_drew _))).mono ?_; rintro e w1 ⟨rfl, hd1⟩; have hk1 : Below W.heap.size W w1 := below_trans2 (below_drew _) hd1))
    refine hK.out _ _ (by with_reducible assumption) (fun hHeld' => ?_)
    clear hK K hHeld
    have hHeld := hHeld'
    clear hHeld'
    try simp only [Act.put, List.setIfInBounds_toArray, List.set_cons_zero, List.set_cons_succ]
    iterate 4 (refine planTake rfl rfl (by rfl) (by intro w hSw; (try dsimp only at hSw); go_simp; try with_reducible rfl) ?_; simp only [Act.put, List.setIfInBounds_toArray, List.set_cons_zero, List.set_cons_succ])
    refine planOne rfl (by rfl) (fun K hK => ?_) planStop
    go_simp
    go_wp2_with ((go_at_call 32; refine (HP.out _ _ (HPs.out.later hk1)).mono ?_; rintro e w2 ⟨rfl, hd2⟩; have hk2 : Below W.heap.size W w2 := below_trans2 hk1 hd2))
    refine hK.out _ _ (by with_reducible assumption) (fun hHeld' => ?_)
    clear hK K hHeld
    have hHeld := hHeld'
    clear hHeld'
    try simp only [Act.put, List.setIfInBounds_toArray, List.set_cons_zero, List.set_cons_succ]
    iterate 3 (refine planTake rfl rfl (by rfl) (by intro w hSw; (try dsimp only at hSw); go_simp; try with_reducible rfl) ?_; simp only [Act.put, List.setIfInBounds_toArray, List.set_cons_zero, List.set_cons_succ])
    iterate 4 (refine planPass rfl rfl (by rfl) ?_; simp only [Act.put, List.setIfInBounds_toArray, List.set_cons_zero, List.set_cons_succ])
    iterate 2 (refine planTake rfl rfl (by rfl) (by intro w hSw; (try dsimp only at hSw); go_simp; try with_reducible rfl) ?_; simp only [Act.put, List.setIfInBounds_toArray, List.set_cons_zero, List.set_cons_succ])
    iterate 5 (refine planPass rfl rfl (by rfl) ?_; simp only [Act.put, List.setIfInBounds_toArray, List.set_cons_zero, List.set_cons_succ])
    iterate 2 (refine planTake rfl rfl (by rfl) (by intro w hSw; (try dsimp only at hSw); go_simp; try with_reducible rfl) ?_; simp only [Act.put, List.setIfInBounds_toArray, List.set_cons_zero, List.set_cons_succ])
    iterate 5 (refine planPass rfl rfl (by rfl) ?_; simp only [Act.put, List.setIfInBounds_toArray, List.set_cons_zero, List.set_cons_succ])
    iterate 2 (refine planTake rfl rfl (by rfl) (by intro w hSw; (try dsimp only at hSw); go_simp; try with_reducible rfl) ?_; simp only [Act.put, List.setIfInBounds_toArray, List.set_cons_zero, List.set_cons_succ])
    iterate 7 (refine planPass rfl rfl (by rfl) ?_; simp only [Act.put, List.setIfInBounds_toArray, List.set_cons_zero, List.set_cons_succ])
    (refine planTake rfl rfl (by rfl) (by intro w hSw; (try dsimp only at hSw); go_simp; try with_reducible rfl) ?_; simp only [Act.put, List.setIfInBounds_toArray, List.set_cons_zero, List.set_cons_succ])
    unfold wpPlan
    go_wp2_with fail
    go_ret
    exact ⟨retB (by rw [HTB.out]; simp), below_trans2 HB.out hk2⟩
  by_cases h1 : xc = 1
  case neg =>
    refine wp_plan (S := fun w' => Below W.heap.size W w') (.take 0 (.take 1 (.alt 2 (.take 3 (.take 4 (.take 5 (.take 6 (.alt 7 (.take 8 (.take 9 (.take 10 (.take 11 (.take 12 (.take 13 (.take 14 (.take 15 (.take 16 (.take 17 (.take 18 (.take 19 (.take 20 (.take 21 (.take 22 (.take 23 (.take 24 (.take 25 (.take 26 (.take 27 (.take 28 (.take 29 (.take 30 (.take 31 (.take 32 (.take 33 (.take 34 (.take 35 (.take 36 (.take 37 (.take 38 .done))))))))))))))))))))))))))))))) .stop))))) .stop))) (by kernel_rfl) (by kernel_rfl) (fun _ _ _ _ _ h => h) (below_drew _) (fun hHeld => ?_)
    iterate 2 (refine planTake rfl rfl (by rfl) (by intro w hSw; (try dsimp only at hSw); go_simp; try with_reducible rfl) ?_; simp only [Act.put, List.setIfInBounds_toArray, List.set_cons_zero, List.set_cons_succ])
    refine planOne rfl (by rfl) (fun K hK => ?_) planStop
    go_simp
    go_wp2_with ((go_at_call 32; refine (HX.out _ _ (HXs.out.later (below_drew _))).mono ?_; rintro e w1 ⟨rfl, hd1⟩; have hk1 : Below W.heap.size W w1 := below_trans2 (below_drew _) hd1))
    refine hK.out _ _ (by with_reducible assumption) (fun hHeld' => ?_)
    clear hK K hHeld
    have hHeld := hHeld'
    clear hHeld'
    try simp only [Act.put, List.setIfInBounds_toArray, List.set_cons_zero, List.set_cons_succ]
    iterate 4 (refine planTake rfl rfl (by rfl) (by intro w hSw; (try dsimp only at hSw); go_simp; try with_reducible rfl) ?_; simp only [Act.put, List.setIfInBounds_toArray, List.set_cons_zero, List.set_cons_succ])
    refine planOne rfl (by rfl) (fun K hK => ?_) planStop
    go_simp
    go_wp2_with ((go_at_call 32; refine (HP.out _ _ (HPs.out.later hk1)).mono ?_; rintro e w2 ⟨rfl, hd2⟩; have hk2 : Below W.heap.size W w2 := below_trans2 hk1 hd2))
    refine hK.out _ _ (by with_reducible assumption) (fun hHeld' => ?_)
    clear hK K hHeld
    have hHeld := hHeld'
    clear hHeld'
    try simp only [Act.put, List.setIfInBounds_toArray, List.set_cons_zero, List.set_cons_succ]
    iterate 9 (refine planTake rfl rfl (by rfl) (by intro w hSw; (try dsimp only at hSw); go_simp; try with_reducible rfl) ?_; simp only [Act.put, List.setIfInBounds_toArray, List.set_cons_zero, List.set_cons_succ])
    iterate 5 (refine planPass rfl rfl (by rfl) ?_; simp only [Act.put, List.setIfInBounds_toArray, List.set_cons_zero, List.set_cons_succ])
    iterate 2 (refine planTake rfl rfl (by rfl) (by intro w hSw; (try dsimp only at hSw); go_simp; try with_reducible rfl) ?_; simp only [Act.put, List.setIfInBounds_toArray, List.set_cons_zero, List.set_cons_succ])
    iterate 5 (refine planPass rfl rfl (by rfl) ?_; simp only [Act.put, List.setIfInBounds_toArray, List.set_cons_zero, List.set_cons_succ])
    iterate 2 (refine planTake rfl rfl (by rfl) (by intro w hSw; (try dsimp only at hSw); go_simp; try with_reducible rfl) ?_; simp only [Act.put, List.setIfInBounds_toArray, List.set_cons_zero, List.set_cons_succ])
    iterate 7 (refine planPass rfl rfl (by rfl) ?_; simp only [Act.put, List.setIfInBounds_toArray, List.set_cons_zero, List.set_cons_succ])
    (refine planTake rfl rfl (by rfl) (by intro w hSw; (try dsimp only at hSw); go_simp; try with_reducible rfl) ?_; simp only [Act.put, List.setIfInBounds_toArray, List.set_cons_zero, List.set_cons_succ])
    unfold wpPlan
    go_wp2_with fail
    go_ret
    exact ⟨retB (by rw [HTB.out]; simp [h1]), below_trans2 HB.out hk2⟩
  subst h1
  by_cases h2 : pr = xr
  case neg =>
    refine wp_plan (S := fun w' => Below W.heap.size W w') (.take 0 (.take 1 (.alt 2 (.take 3 (.take 4 (.take 5 (.take 6 (.alt 7 (.take 8 (.take 9 (.take 10 (.take 11 (.take 12 (.take 13 (.take 14 (.take 15 (.take 16 (.take 17 (.take 18 (.take 19 (.take 20 (.take 21 (.take 22 (.take 23 (.take 24 (.take 25 (.take 26 (.take 27 (.take 28 (.take 29 (.take 30 (.take 31 (.take 32 (.take 33 (.take 34 (.take 35 (.take 36 (.take 37 (.take 38 .done))))))))))))))))))))))))))))))) .stop))))) .stop))) (by kernel_rfl) (by kernel_rfl) (fun _ _ _ _ _ h => h) (below_drew _) (fun hHeld => ?_)
    iterate 2 (refine planTake rfl rfl (by rfl) (by intro w hSw; (try dsimp only at hSw); go_simp; try with_reducible rfl) ?_; simp only [Act.put, List.setIfInBounds_toArray, List.set_cons_zero, List.set_cons_succ])
    refine planOne rfl (by rfl) (fun K hK => ?_) planStop
    go_simp
    go_wp2_with ((go_at_call 32; refine (HX.out _ _ (HXs.out.later (below_drew _))).mono ?_; rintro e w1 ⟨rfl, hd1⟩; have hk1 : Below W.heap.size W w1 := below_trans2 (below_drew _) hd1))
    refine hK.out _ _ (by with_reducible assumption) (fun hHeld' => ?_)
    clear hK K hHeld
    have hHeld := hHeld'
    clear hHeld'
    try simp only [Act.put, List.setIfInBounds_toArray, List.set_cons_zero, List.set_cons_succ]
    iterate 4 (refine planTake rfl rfl (by rfl) (by intro w hSw; (try dsimp only at hSw); go_simp; try with_reducible rfl) ?_; simp only [Act.put, List.setIfInBounds_toArray, List.set_cons_zero, List.set_cons_succ])
    refine planOne rfl (by rfl) (fun K hK => ?_) planStop
    go_simp
    go_wp2_with ((go_at_call 32; refine (HP.out _ _ (HPs.out.later hk1)).mono ?_; rintro e w2 ⟨rfl, hd2⟩; have hk2 : Below W.heap.size W w2 := below_trans2 hk1 hd2))
    refine hK.out _ _ (by with_reducible assumption) (fun hHeld' => ?_)
    clear hK K hHeld
    have hHeld := hHeld'
    clear hHeld'
    try simp only [Act.put, List.setIfInBounds_toArray, List.set_cons_zero, List.set_cons_succ]
    iterate 16 (refine planTake rfl rfl (by rfl) (by intro w hSw; (try dsimp only at hSw); go_simp; try with_reducible rfl) ?_; simp only [Act.put, List.setIfInBounds_toArray, List.set_cons_zero, List.set_cons_succ])
    iterate 5 (refine planPass rfl rfl (by rfl) ?_; simp only [Act.put, List.setIfInBounds_toArray, List.set_cons_zero, List.set_cons_succ])
    iterate 2 (refine planTake rfl rfl (by rfl) (by intro w hSw; (try dsimp only at hSw); go_simp; try with_reducible rfl) ?_; simp only [Act.put, List.setIfInBounds_toArray, List.set_cons_zero, List.set_cons_succ])
    iterate 7 (refine planPass rfl rfl (by rfl) ?_; simp only [Act.put, List.setIfInBounds_toArray, List.set_cons_zero, List.set_cons_succ])
    (refine planTake rfl rfl (by rfl) (by intro w hSw; (try dsimp only at hSw); go_simp; try with_reducible rfl) ?_; simp only [Act.put, List.setIfInBounds_toArray, List.set_cons_zero, List.set_cons_succ])
    unfold wpPlan
    go_wp2_with fail
    go_ret
    exact ⟨retB (by rw [HTB.out]; simp [h2]), below_trans2 HB.out hk2⟩
  subst h2
  by_cases h3 : pc = pr
  case neg =>
    refine wp_plan (S := fun w' => Below W.heap.size W w') (.take 0 (.take 1 (.alt 2 (.take 3 (.take 4 (.take 5 (.take 6 (.alt 7 (.take 8 (.take 9 (.take 10 (.take 11 (.take 12 (.take 13 (.take 14 (.take 15 (.take 16 (.take 17 (.take 18 (.take 19 (.take 20 (.take 21 (.take 22 (.take 23 (.take 24 (.take 25 (.take 26 (.take 27 (.take 28 (.take 29 (.take 30 (.take 31 (.take 32 (.take 33 (.take 34 (.take 35 (.take 36 (.take 37 (.take 38 .done))))))))))))))))))))))))))))))) .stop))))) .stop))) (by kernel_rfl) (by kernel_rfl) (fun _ _ _ _ _ h => h) (below_drew _) (fun hHeld => ?_)
    iterate 2 (refine planTake rfl rfl (by rfl) (by intro w hSw; (try dsimp only at hSw); go_simp; try with_reducible rfl) ?_; simp only [Act.put, List.setIfInBounds_toArray, List.set_cons_zero, List.set_cons_succ])
    refine planOne rfl (by rfl) (fun K hK => ?_) planStop
    go_simp
    go_wp2_with ((go_at_call 32; refine (HX.out _ _ (HXs.out.later (below_drew _))).mono ?_; rintro e w1 ⟨rfl, hd1⟩; have hk1 : Below W.heap.size W w1 := below_trans2 (below_drew _) hd1))
    refine hK.out _ _ (by with_reducible assumption) (fun hHeld' => ?_)
    clear hK K hHeld
    have hHeld := hHeld'
    clear hHeld'
    try simp only [Act.put, List.setIfInBounds_toArray, List.set_cons_zero, List.set_cons_succ]
    iterate 4 (refine planTake rfl rfl (by rfl) (by intro w hSw; (try dsimp only at hSw); go_simp; try with_reducible rfl) ?_; simp only [Act.put, List.setIfInBounds_toArray, List.set_cons_zero, List.set_cons_succ])
    refine planOne rfl (by rfl) (fun K hK => ?_) planStop
    go_simp
    go_wp2_with ((go_at_call 32; refine (HP.out _ _ (HPs.out.later hk1)).mono ?_; rintro e w2 ⟨rfl, hd2⟩; have hk2 : Below W.heap.size W w2 := below_trans2 hk1 hd2))
    refine hK.out _ _ (by with_reducible assumption) (fun hHeld' => ?_)
    clear hK K hHeld
    have hHeld := hHeld'
    clear hHeld'
    try simp only [Act.put, List.setIfInBounds_toArray, List.set_cons_zero, List.set_cons_succ]
    iterate 23 (refine planTake rfl rfl (by rfl) (by intro w hSw; (try dsimp only at hSw); go_simp; try with_reducible rfl) ?_; simp only [Act.put, List.setIfInBounds_toArray, List.set_cons_zero, List.set_cons_succ])
    iterate 7 (refine planPass rfl rfl (by rfl) ?_; simp only [Act.put, List.setIfInBounds_toArray, List.set_cons_zero, List.set_cons_succ])
    (refine planTake rfl rfl (by rfl) (by intro w hSw; (try dsimp only at hSw); go_simp; try with_reducible rfl) ?_; simp only [Act.put, List.setIfInBounds_toArray, List.set_cons_zero, List.set_cons_succ])
    unfold wpPlan
    go_wp2_with fail
    go_ret
    exact ⟨retB (by rw [HTB.out]; simp [h3]), below_trans2 HB.out hk2⟩
  subst h3
  have z1 := HS1.out rfl
  have z2 := HS2.out rfl
  obtain ⟨n, rfl⟩ : ∃ n : Nat, pc = n := ⟨pc.toNat, by omega⟩
  have HLp : Hid (ps.length = n * n) := by show _ = _; have := z2.2.2.2.2; exact_mod_cast this
  have hn1 : 1 ≤ n := by omega
  have hn8 : n ≤ 8 := by omega
  have hSm := fun (w : World) v v' h h' => msame_any w n n n n v v' ps (transL ps n n) h h' hlp (by unfold transL; rw [tab_length, ← HLp.out]; exact hlp)
  obtain ⟨c6, hc6⟩ : ∃ c, evenB ps n = c := ⟨_, rfl⟩
  have hs6 : sameB n n ps n n (transL ps n n) = c6 := by rw [← hc6]; simp [sameB, evenB]
  rw [hs6] at hSm
  have HSm := Lib.hid hSm
  have HTC : Hid (tb = (c6 && posTo ps n n)) := by show _ = _; rw [HTB.out]; simp [hc6]
  clear hSm hs6 hc6 z1 z2 HTB
  cases c6
  · refine wp_plan (S := fun w' => Below W.heap.size W w') (.take 0 (.take 1 (.alt 2 (.take 3 (.take 4 (.take 5 (.take 6 (.alt 7 (.take 8 (.take 9 (.take 10 (.take 11 (.take 12 (.take 13 (.take 14 (.take 15 (.take 16 (.take 17 (.take 18 (.take 19 (.take 20 (.take 21 (.take 22 (.take 23 (.take 24 (.take 25 (.take 26 (.take 27 (.take 28 (.take 29 (.take 30 (.take 31 (.take 32 (.take 33 (.take 34 (.alt 35 (.alt 36 (.take 37 (.take 38 .done)) .stop) .stop)))))))))))))))))))))))))))) .stop))))) .stop))) (by kernel_rfl) (by kernel_rfl) (fun _ _ _ _ _ h => h) (below_drew _) (fun hHeld => ?_)
    iterate 2 (refine planTake rfl rfl (by rfl) (by intro w hSw; (try dsimp only at hSw); go_simp; try with_reducible rfl) ?_; simp only [Act.put, List.setIfInBounds_toArray, List.set_cons_zero, List.set_cons_succ])
    refine planOne rfl (by rfl) (fun K hK => ?_) planStop
    go_simp
    go_wp2_with ((go_at_call 32; refine (HX.out _ _ (HXs.out.later (below_drew _))).mono ?_; rintro e w1 ⟨rfl, hd1⟩; have hk1 : Below W.heap.size W w1 := below_trans2 (below_drew _) hd1))
    refine hK.out _ _ (by with_reducible assumption) (fun hHeld' => ?_)
    clear hK K hHeld
    have hHeld := hHeld'
    clear hHeld'
    try simp only [Act.put, List.setIfInBounds_toArray, List.set_cons_zero, List.set_cons_succ]
    iterate 4 (refine planTake rfl rfl (by rfl) (by intro w hSw; (try dsimp only at hSw); go_simp; try with_reducible rfl) ?_; simp only [Act.put, List.setIfInBounds_toArray, List.set_cons_zero, List.set_cons_succ])
    refine planOne rfl (by rfl) (fun K hK => ?_) planStop
    go_simp
    go_wp2_with ((go_at_call 32; refine (HP.out _ _ (HPs.out.later hk1)).mono ?_; rintro e w2 ⟨rfl, hd2⟩; have hk2 : Below W.heap.size W w2 := below_trans2 hk1 hd2))
    refine hK.out _ _ (by with_reducible assumption) (fun hHeld' => ?_)
    clear hK K hHeld
    have hHeld := hHeld'
    clear hHeld'
    try simp only [Act.put, List.setIfInBounds_toArray, List.set_cons_zero, List.set_cons_succ]
    iterate 27 (refine planTake rfl rfl (by rfl) (by intro w hSw; (try dsimp only at hSw); go_simp; try with_reducible rfl) ?_; simp only [Act.put, List.setIfInBounds_toArray, List.set_cons_zero, List.set_cons_succ])
    refine planOne rfl (by rfl) (fun K hK => ?_) planStop
    go_simp
    go_wp2_with ((go_at_call 36; refine (trans_own _ n n _ ps ⟨HPs.out.later hk2, by rw [HLp.out], by omega, by omega⟩).mono ?_; rintro e w3 ⟨a3, k3, rfl, hm3, hd3⟩; have hk3 : Below W.heap.size W w3 := below_trans2 hk2 hd3))
    refine hK.out _ _ (by with_reducible assumption) (fun hHeld' => ?_)
    clear hK K hHeld
    have hHeld := hHeld'
    clear hHeld'
    try simp only [Act.put, List.setIfInBounds_toArray, List.set_cons_zero, List.set_cons_succ]
    refine planOne rfl (by rfl) (fun K hK => ?_) planStop
    go_simp
    go_wp2_with ((go_at_call 22; refine (HSm.out _ _ _ (HPs.out.later hk3) hm3.own.qs).mono ?_; rintro e w4 ⟨rfl, hd4⟩; have hk4 : Below W.heap.size W w4 := below_trans2 hk3 hd4))
    refine hK.out _ _ (by with_reducible assumption) (fun hHeld' => ?_)
    clear hK K hHeld
    have hHeld := hHeld'
    clear hHeld'
    try simp only [Act.put, List.setIfInBounds_toArray, List.set_cons_zero, List.set_cons_succ]
    iterate 2 (refine planTake rfl rfl (by rfl) (by intro w hSw; (try dsimp only at hSw); go_simp; try with_reducible rfl) ?_; simp only [Act.put, List.setIfInBounds_toArray, List.set_cons_zero, List.set_cons_succ])
    unfold wpPlan
    go_wp2_with fail
    go_ret
    exact ⟨retB (by rw [HTC.out]; rfl), below_trans2 HB.out hk4⟩
  refine wp_plan (S := fun w' => Below W.heap.size W w') (.take 0 (.take 1 (.alt 2 (.take 3 (.take 4 (.take 5 (.take 6 (.alt 7 (.take 8 (.take 9 (.take 10 (.take 11 (.take 12 (.take 13 (.take 14 (.take 15 (.take 16 (.take 17 (.take 18 (.take 19 (.take 20 (.take 21 (.take 22 (.take 23 (.take 24 (.take 25 (.take 26 (.take 27 (.take 28 (.take 29 (.take 30 (.take 31 (.take 32 (.take 33 (.take 34 (.alt 35 (.alt 36 (.take 37 (.take 38 .done)) .stop) .stop)))))))))))))))))))))))))))) .stop))))) .stop))) (by kernel_rfl) (by kernel_rfl) (fun _ _ _ _ _ h => h) (below_drew _) (fun hHeld => ?_)
  iterate 2 (refine planTake rfl rfl (by rfl) (by intro w hSw; (try dsimp only at hSw); go_simp; try with_reducible rfl) ?_; simp only [Act.put, List.setIfInBounds_toArray, List.set_cons_zero, List.set_cons_succ])
  refine planOne rfl (by rfl) (fun K hK => ?_) planStop
  go_simp
  go_wp2_with ((go_at_call 32; refine (HX.out _ _ (HXs.out.later (below_drew _))).mono ?_; rintro e w1 ⟨rfl, hd1⟩; have hk1 : Below W.heap.size W w1 := below_trans2 (below_drew _) hd1))
  refine hK.out _ _ (by with_reducible assumption) (fun hHeld' => ?_)
  clear hK K hHeld
  have hHeld := hHeld'
  clear hHeld'
  try simp only [Act.put, List.setIfInBounds_toArray, List.set_cons_zero, List.set_cons_succ]
  iterate 4 (refine planTake rfl rfl (by rfl) (by intro w hSw; (try dsimp only at hSw); go_simp; try with_reducible rfl) ?_; simp only [Act.put, List.setIfInBounds_toArray, List.set_cons_zero, List.set_cons_succ])
  refine planOne rfl (by rfl) (fun K hK => ?_) planStop
  go_simp
  go_wp2_with ((go_at_call 32; refine (HP.out _ _ (HPs.out.later hk1)).mono ?_; rintro e w2 ⟨rfl, hd2⟩; have hk2 : Below W.heap.size W w2 := below_trans2 hk1 hd2))
  refine hK.out _ _ (by with_reducible assumption) (fun hHeld' => ?_)
  clear hK K hHeld
  have hHeld := hHeld'
  clear hHeld'
  try simp only [Act.put, List.setIfInBounds_toArray, List.set_cons_zero, List.set_cons_succ]
  iterate 27 (refine planTake rfl rfl (by rfl) (by intro w hSw; (try dsimp only at hSw); go_simp; try with_reducible rfl) ?_; simp only [Act.put, List.setIfInBounds_toArray, List.set_cons_zero, List.set_cons_succ])
  refine planOne rfl (by rfl) (fun K hK => ?_) planStop
  go_simp
  go_wp2_with ((go_at_call 36; refine (trans_own _ n n _ ps ⟨HPs.out.later hk2, by rw [HLp.out], by omega, by omega⟩).mono ?_; rintro e w3 ⟨a3, k3, rfl, hm3, hd3⟩; have hk3 : Below W.heap.size W w3 := below_trans2 hk2 hd3))
  refine hK.out _ _ (by with_reducible assumption) (fun hHeld' => ?_)
  clear hK K hHeld
  have hHeld := hHeld'
  clear hHeld'
  try simp only [Act.put, List.setIfInBounds_toArray, List.set_cons_zero, List.set_cons_succ]
  refine planOne rfl (by rfl) (fun K hK => ?_) planStop
  go_simp
  go_wp2_with ((go_at_call 22; refine (HSm.out _ _ _ (HPs.out.later hk3) hm3.own.qs).mono ?_; rintro e w4 ⟨rfl, hd4⟩; have hk4 : Below W.heap.size W w4 := below_trans2 hk3 hd4))
  refine hK.out _ _ (by with_reducible assumption) (fun hHeld' => ?_)
  clear hK K hHeld
  have hHeld := hHeld'
  clear hHeld'
  try simp only [Act.put, List.setIfInBounds_toArray, List.set_cons_zero, List.set_cons_succ]
  iterate 2 (refine planTake rfl rfl (by rfl) (by intro w hSw; (try dsimp only at hSw); go_simp; try with_reducible rfl) ?_; simp only [Act.put, List.setIfInBounds_toArray, List.set_cons_zero, List.set_cons_succ])
  unfold wpPlan
  have HP4 := Lib.hid (HPs.out.later hk4)
  have HB4 := Lib.hid (below_trans2 HB.out hk4)
  have q2 := r3 _ hk4
  have q5 := r5 _ hk4
  have hnn : n * n ≤ 64 := mat_len hn8 hn8
  clear r0 r1 r2 r3 r4 r5 hk1 hk2 hk3 hk0 hd1 hd2 hd3 hd4 hm3 hk4 hHeld
  go_wp2_with fail
  go_loopg [48] n (fun k iv wr => w4 = wr ∧ ∃ i : Nat, i ≤ n ∧ k = n - i ∧ iv = .int .i64 i ∧ posTo ps n i = true)
  case atStart => exact ⟨rfl, 0, by omega, by omega, rfl, rfl⟩
  case round =>
    obtain ⟨rfl, i, hi, rfl, rfl, ha⟩ := hrel
    have HN := Lib.hid ha
    clear ha
    by_cases hlt : i < n
    · have hil : (i : Int) < (n : Int) := by omega
      obtain ⟨A0, hA0⟩ : ∃ A0, i * n = A0 := ⟨_, rfl⟩
      obtain ⟨A, hA⟩ : ∃ A, A0 + i = A := ⟨_, rfl⟩
      have hAp : A < ps.length := by rw [HLp.out, ← hA, ← hA0]; have := Nat.mul_le_mul_right n (show i + 1 ≤ n by omega); rw [Nat.add_mul, Nat.one_mul] at this; omega
      obtain ⟨b, off, cap', hcc, hcell⟩ := QS.cell HP4.out hAp
      injection hcc with hq1 hq2 hq3
      subst hq1
      subst hq3
      obtain ⟨x, hx⟩ : ∃ x, ps[A] = x := ⟨_, rfl⟩
      have HX : Hid (ps.getD (i * n + i) 0 = x) := by show _ = _; rw [hA0, hA, List.getD_eq_getElem?_getD, List.getElem?_eq_getElem hAp]; simpa using hx
      rw [hx] at hcell
      have e0 : (i : Int) * (n : Int) = (A0 : Int) := by rw [← hA0]; push_cast; rfl
      have e1 : (A0 : Int) + (i : Int) = (A : Int) := by omega
      have hAi : (A : Int) < (ps.length : Int) := by omega
      have hl64 : ps.length ≤ 64 := by rw [HLp.out]; exact hnn
      clear hx hA0 hA
      go_wp2_with fail
      · go_ret
        have h6 : x < 0 := by omega
        exact ⟨retB (by rw [HTC.out, posTo_no (by rw [HX.out]; exact h6) hlt]; rfl), by first | exact HB4.out | (rw [← hsz]; exact HB4.out)⟩
      · have h6 : ¬ x < 0 := by omega
        go_roundg (n - (i + 1))
        case measure => omega
        case rel => exact ⟨rfl, i + 1, by omega, rfl, by go_num, by rw [posTo_succ, HN.out, HX.out]; simpa using h6⟩
    · have hin : i = n := by omega
      subst hin
      go_wp2_with fail
      go_ret
      exact ⟨retB (by rw [HTC.out, HN.out]; rfl), by first | exact HB4.out | (rw [← hsz]; exact HB4.out)⟩

end Go.Proofs.Ytijohedhbbddjaa

namespace Go.Proofs.Ytijohedhbbddjaa
open Go.RowKit

theorem tab_getD {g : Nat → Nat → Int} {c n j : Nat} (hj : j < n) : (tab g c n).getD j 0 = g (j / c) (j % c) := by
  unfold tab
  rw [List.getD_eq_getElem?_getD, List.getElem?_map, List.getElem?_range hj]
  rfl
theorem evenB_iff {ps : List Int} {n : Nat} (hl : ps.length = n * n) : evenB ps n = true ↔ ∀ i k, k < i → i < n → ps.getD (i * n + k) 0 = ps.getD (k * n + i) 0 := by
  unfold evenB
  rw [decide_eq_true_iff]
  constructor
  · intro h i k hk hi
    have hj : i * n + k < n * n := by have := Nat.mul_le_mul_right n (show i + 1 ≤ n by omega); rw [Nat.add_mul, Nat.one_mul] at this; omega
    have h2 := congrArg (fun l => l.getD (i * n + k) 0) h
    simp only [transL] at h2
    rw [tab_getD hj] at h2
    have hd : (i * n + k) / n = i := by rw [Nat.mul_comm, Nat.mul_add_div (by omega), Nat.div_eq_of_lt (by omega)]; omega
    have hm : (i * n + k) % n = k := by rw [Nat.mul_comm, Nat.mul_add_mod, Nat.mod_eq_of_lt (by omega)]
    rw [hd, hm] at h2
    exact h2
  · intro h
    apply List.ext_getElem (by unfold transL; rw [tab_length, hl])
    intro j h1 h2
    have hj : j < n * n := by omega
    have hn : 0 < n := by rcases Nat.eq_zero_or_pos n with h | h; (subst h; simp at hj); exact h
    have h3 : (transL ps n n).getD j 0 = ps.getD (j % n * n + j / n) 0 := by unfold transL; rw [tab_getD hj]
    have h4 : (transL ps n n).getD j 0 = (transL ps n n)[j] := by rw [List.getD_eq_getElem?_getD, List.getElem?_eq_getElem h2]; rfl
    have h5 : ps.getD j 0 = ps[j] := by rw [List.getD_eq_getElem?_getD, List.getElem?_eq_getElem h1]; rfl
    rw [← h4, ← h5, h3]
    have hd : j / n < n := Nat.div_lt_of_lt_mul hj
    have hm : j % n < n := Nat.mod_lt _ hn
    have hj2 : j = j / n * n + j % n := by rw [Nat.mul_comm]; exact (Nat.div_add_mod j n).symm
    rcases Nat.lt_trichotomy (j % n) (j / n) with h6 | h6 | h6
    · have := h _ _ h6 hd
      rw [← hj2] at this
      exact this
    · rw [h6]
      have : j = j / n * n + j / n := by rw [h6] at hj2; exact hj2
      rw [← this]
    · have := h _ _ h6 hm
      rw [← hj2] at this
      exact this.symm
theorem evenB_no {ps : List Int} {n i k : Nat} (hl : ps.length = n * n) (hk : k < i) (hi : i < n) (h : ps.getD (i * n + k) 0 ≠ ps.getD (k * n + i) 0) : evenB ps n = false := by
  cases he : evenB ps n with
  | false => rfl
  | true => exact absurd ((evenB_iff hl).1 he i k hk hi) h

set_option maxRecDepth 100000 in
set_option maxHeartbeats 4000000 in
theorem rright5_any (w : World) (xr xc pr pc : Int) (vx vp : Value) (xs ps : List Int) (hx : QS w vx xs) (hp : QS w vp ps) (hlx : xs.length ≤ 9223372036854775807) (hlp : ps.length ≤ 9223372036854775807) :
    Calls Try.prog 60 #[.agg #[.int .i64 xr, .int .i64 xc, vx, .int .i64 pr, .int .i64 pc, vp]] w fun e w' => e = .returned (.bool (trackB xr xc xs pr pc ps)) ∧ Below w.heap.size w w' := by
  obtain ⟨ax, cx, rfl, -⟩ := id hx
  obtain ⟨ap, cp, rfl, -⟩ := id hp
  have hX := fun (w : World) v h => rright_any w xr xc v xs h hlx
  have hP := fun (w : World) v h => rright_any w pr pc v ps h hlp
  have hT : trackB xr xc xs pr pc ps = trackB xr xc xs pr pc ps := rfl
  conv at hT => rhs; unfold trackB
  have hS1 := fun h => @rightB_sizes xr xc xs h
  have hS2 := fun h => @rightB_sizes pr pc ps h
  obtain ⟨c1, hc1⟩ : ∃ c, rightB xr xc xs = c := ⟨_, rfl⟩
  obtain ⟨c2, hc2⟩ : ∃ c, rightB pr pc ps = c := ⟨_, rfl⟩
  obtain ⟨tb, htb⟩ : ∃ c, trackB xr xc xs pr pc ps = c := ⟨_, rfl⟩
  rw [hc1] at hX hS1
  rw [hc2] at hP hS2
  rw [htb]
  rw [htb, hc1, hc2] at hT
  have HX := Lib.hid hX
  have HP := Lib.hid hP
  have HTB := Lib.hid hT
  have HS1 := Lib.hid hS1
  have HS2 := Lib.hid hS2
  clear hX hP hc1 hc2 hT htb hS1 hS2
  have e8 : ∀ x y : Int, (x != y) = !decide (x = y) := fun _ _ => rfl
  obtain ⟨s, hsz⟩ : ∃ s, w.heap.size = s := ⟨_, rfl⟩
  obtain ⟨W, hW⟩ : ∃ W, W = w.alloc (rowT xr xc ax xs.length cx pr pc ap ps.length cp) := ⟨_, rfl⟩
  have hbW : Below w.heap.size w W := by rw [hW]; exact below1 _ _
  have h0 : W.heap[s]? = some (rowT xr xc ax xs.length cx pr pc ap ps.length cp) := by rw [hW]; exact heap_at _ _ _ hsz.symm
  have HXs := Lib.hid (hx.later hbW)
  have HPs := Lib.hid (hp.later hbW)
  have HB := Lib.hid hbW
  have c := rowT_cell h0
  have r0 := cells_later c.1
  have r1 := cells_later c.2.1
  have r2 := cells_later c.2.2.1
  have r3 := cells_later c.2.2.2.1
  have r4 := cells_later c.2.2.2.2.1
  have r5 := cells_later c.2.2.2.2.2
  have hk0 := Below.refl W.heap.size W
  clear hx hp h0 c hbW
  go_enter Try.func60, Try.ntmps60
  go_upto_region 1 with fail
  unfold rowT at hW
  rw [← hW]
  clear hW
  go_upto_region 2 with (go_at_call 12; (refine (HX.out _ _ HXs.out).mono ?_); rintro e w1 ⟨rfl, hd1⟩)
  go_upto_region 4 with (go_at_call 12; (refine (HP.out _ _ (HPs.out.later hd1)).mono ?_); rintro e w2 ⟨rfl, hd2⟩; have hk2 := below_trans2 hd1 hd2)
  have HE : Hid (Below w.heap.size w w2) := below_trans2 HB.out hk2
  cases c1
  · go_wp2_with fail
    go_ret
    exact ⟨retB (by rw [HTB.out]; simp), by first | exact HE.out | (rw [← hsz]; exact HE.out)⟩
  cases c2
  · go_wp2_with fail
    go_ret
    exact ⟨retB (by rw [HTB.out]; simp), by first | exact HE.out | (rw [← hsz]; exact HE.out)⟩
  by_cases h1 : xc = 1
  case neg =>
    go_wp2_with fail
    go_ret
    exact ⟨retB (by rw [HTB.out]; simp [h1]), by first | exact HE.out | (rw [← hsz]; exact HE.out)⟩
  subst h1
  by_cases h2 : pr = xr
  case neg =>
    go_wp2_with fail
    go_ret
    exact ⟨retB (by rw [HTB.out]; simp [h2]), by first | exact HE.out | (rw [← hsz]; exact HE.out)⟩
  subst h2
  by_cases h3 : pc = pr
  case neg =>
    go_wp2_with fail
    go_ret
    exact ⟨retB (by rw [HTB.out]; simp [h3]), by first | exact HE.out | (rw [← hsz]; exact HE.out)⟩
  subst h3
  have z1 := HS1.out rfl
  have z2 := HS2.out rfl
  obtain ⟨n, rfl⟩ : ∃ n : Nat, pc = n := ⟨pc.toNat, by omega⟩
  have HLp : Hid (ps.length = n * n) := by show _ = _; have := z2.2.2.2.2; exact_mod_cast this
  have hn1 : 1 ≤ n := by omega
  have hn8 : n ≤ 8 := by omega
  have HTC : Hid (tb = (evenB ps n && posTo ps n n)) := by show _ = _; rw [HTB.out]; simp
  have hnn : n * n ≤ 64 := mat_len hn8 hn8
  have HQ := Lib.hid (HPs.out.later hk2)
  have q1 := r1 _ hk2
  have q2 := r3 _ hk2
  have q4 := r4 _ hk2
  have q5 := r5 _ hk2
  clear z1 z2 HTB HS1 HS2 r0 r1 r2 r3 r4 r5 hk2 hk0 hd1 hd2
  go_wp2_with fail
  go_loopg [6, 7] n (fun k iv jv wr => Below w2.heap.size w2 wr ∧ ∃ i : Nat, i ≤ n ∧ k = n - i ∧ iv = .int .i64 i ∧ posTo ps n i = true ∧ ∀ a b, b < a → a < i → ps.getD (a * n + b) 0 = ps.getD (b * n + a) 0)
  case atStart => exact ⟨Below.refl _ _, 0, by omega, by omega, rfl, rfl, fun a b _ h => by omega⟩
  case round =>
    obtain ⟨hbr, i, hi, rfl, rfl, ha, hev⟩ := hrel
    have HN := Lib.hid ha
    have HV := Lib.hid hev
    clear ha hev
    have q2' := cell_later hbr q2
    have q5' := cell_later hbr q5
    have HQr := Lib.hid (HQ.out.later hbr)
    have HEr := Lib.hid (below_trans2 HE.out hbr)
    obtain ⟨wo, rfl⟩ : ∃ wo : World, wo = wr := ⟨_, rfl⟩
    have HBR := Lib.hid hbr
    clear hbr
    by_cases hlt : i < n
    · have hil : (i : Int) < (n : Int) := by omega
      obtain ⟨A0, hA0⟩ : ∃ A0, i * n = A0 := ⟨_, rfl⟩
      obtain ⟨A, hA⟩ : ∃ A, A0 + i = A := ⟨_, rfl⟩
      have hAp : A < ps.length := by rw [HLp.out, ← hA, ← hA0]; have := Nat.mul_le_mul_right n (show i + 1 ≤ n by omega); rw [Nat.add_mul, Nat.one_mul] at this; omega
      obtain ⟨b, off, cap', hcc, hcell⟩ := QS.cell HQr.out hAp
      injection hcc with hq1 hq2 hq3
      subst hq1
      subst hq3
      obtain ⟨x, hx⟩ : ∃ x, ps[A] = x := ⟨_, rfl⟩
      have HX : Hid (ps.getD (i * n + i) 0 = x) := by show _ = _; rw [hA0, hA, List.getD_eq_getElem?_getD, List.getElem?_eq_getElem hAp]; simpa using hx
      rw [hx] at hcell
      have e0 : (i : Int) * (n : Int) = (A0 : Int) := by rw [← hA0]; push_cast; rfl
      have e1 : (A0 : Int) + (i : Int) = (A : Int) := by omega
      have hl64 : ps.length ≤ 64 := by rw [HLp.out]; exact hnn
      have hAi : (A : Int) < (ps.length : Int) := by omega
      have HA0 := Lib.hid hA0
      clear hx hA0 hA
      by_cases hneg : x < 0
      · go_wp2_with fail
        go_ret
        exact ⟨retB (by rw [HTC.out, posTo_no (by rw [HX.out]; exact hneg) hlt, Bool.and_false]), by first | exact HEr.out | (rw [← hsz]; exact HEr.out)⟩
      · go_wp2_with fail
        go_loopg [7] i (fun k jv wi => Below wo.heap.size wo wi ∧ ∃ j : Nat, j ≤ i ∧ k = i - j ∧ jv = .int .i64 j ∧ ∀ b, b < j → ps.getD (i * n + b) 0 = ps.getD (b * n + i) 0)
        case atStart => exact ⟨Below.refl _ _, 0, by omega, by omega, rfl, fun b h => by omega⟩
        case round =>
          obtain ⟨hbi, j, hj, rfl, rfl, hevi⟩ := hrel
          have HVi := Lib.hid hevi
          have HBi := Lib.hid hbi
          have q2i := cell_later hbi q2'
          have q5i := cell_later hbi q5'
          have HQi := Lib.hid (HQr.out.later hbi)
          clear hevi hbi hcell
          by_cases hji : j < i
          · have hjl : (j : Int) < (i : Int) := by omega
            obtain ⟨B0, hB0⟩ : ∃ B0, j * n = B0 := ⟨_, rfl⟩
            obtain ⟨B, hB⟩ : ∃ B, A0 + j = B := ⟨_, rfl⟩
            obtain ⟨C, hC⟩ : ∃ C, B0 + i = C := ⟨_, rfl⟩
            have hBp : B < ps.length := by omega
            have hCp : C < ps.length := by rw [HLp.out, ← hC, ← hB0]; have := Nat.mul_le_mul_right n (show j + 1 ≤ n by omega); rw [Nat.add_mul, Nat.one_mul] at this; omega
            obtain ⟨b2, off2, cap2, hcc2, hcB⟩ := QS.cell HQi.out hBp
            injection hcc2 with hq1 hq2 hq3
            injection hq1 with hq1
            injection hq1 with hq4 hq5
            subst hq4
            subst hq5
            obtain ⟨b3, off3, cap3, hcc3, hcC⟩ := QS.cell HQi.out hCp
            injection hcc3 with hr1 hr2 hr3
            injection hr1 with hr1
            injection hr1 with hr4 hr5
            subst hr4
            subst hr5
            obtain ⟨y, hy⟩ : ∃ x, ps[B] = x := ⟨_, rfl⟩
            obtain ⟨z, hz⟩ : ∃ x, ps[C] = x := ⟨_, rfl⟩
            have HY : Hid (ps.getD (i * n + j) 0 = y) := by show _ = _; rw [HA0.out, hB, List.getD_eq_getElem?_getD, List.getElem?_eq_getElem hBp]; simpa using hy
            have HZ : Hid (ps.getD (j * n + i) 0 = z) := by show _ = _; rw [hB0, hC, List.getD_eq_getElem?_getD, List.getElem?_eq_getElem hCp]; simpa using hz
            rw [hy] at hcB
            rw [hz] at hcC
            have f0 : (j : Int) * (n : Int) = (B0 : Int) := by rw [← hB0]; push_cast; rfl
            have f1 : (A0 : Int) + (j : Int) = (B : Int) := by omega
            have f2 : (B0 : Int) + (i : Int) = (C : Int) := by omega
            have hBi : (B : Int) < (ps.length : Int) := by omega
            have hCi : (C : Int) < (ps.length : Int) := by omega
            have v0 : (0 : Int) ≤ (B : Int) := by omega
            have v1 : (0 : Int) ≤ (C : Int) := by omega
            have hB64 : B0 ≤ 64 := by omega
            have w0 := Lib.hid (IntWalk.i64_in (A0 : Int) (by omega))
            have w1 := Lib.hid (IntWalk.i64_in (B : Int) (by omega))
            have w2 := Lib.hid (IntWalk.i64_in (B0 : Int) (by omega))
            have w3 := Lib.hid (IntWalk.i64_in (C : Int) (by omega))
            clear hy hz hB0 hB hC hq3 hr3 hq2 hr2
            by_cases hyz : y = z
            all_goals
              have w0 := w0.out
              have w1 := w1.out
              have w2 := w2.out
              have w3 := w3.out
              go_wp2_with fail
              go_region
              clear w0 w1 w2 w3
            · subst hyz
              go_wp2_with fail
              go_roundg (i - (j + 1))
              case measure => omega
              case rel =>
                refine ⟨below_trans2 HBi.out (below_drew _), j + 1, by omega, rfl, by go_num, fun b hb => ?_⟩
                by_cases hbj : b = j
                · subst hbj; rw [HY.out, HZ.out]
                · exact HVi.out b (by omega)
            · go_wp2_with fail
              go_ret
              exact ⟨retB (by rw [HTC.out, evenB_no HLp.out hji hlt (by rw [HY.out, HZ.out]; exact hyz), Bool.false_and]), by have h := below_trans2 (below_trans2 HEr.out HBi.out) (below_drew _); first | exact h | (rw [← hsz]; exact h)⟩
          · have hin : j = i := by omega
            subst hin
            go_wp2_with fail
            go_roundg (n - (j + 1))
            case measure => omega
            case rel =>
              refine ⟨below_trans2 HBR.out HBi.out, j + 1, by omega, rfl, by go_num, by rw [posTo_succ, HN.out, HX.out]; simpa using hneg, fun a b hb ha => ?_⟩
              by_cases haj : a = j
              · subst haj; exact HVi.out b hb
              · exact HV.out a b hb (by omega)
    · have hin : i = n := by omega
      subst hin
      go_wp2_with fail
      go_ret
      exact ⟨retB (by rw [HTC.out, HN.out, (evenB_iff HLp.out).2 (fun a b hb ha => HV.out a b hb ha)]; rfl), by first | exact HEr.out | (rw [← hsz]; exact HEr.out)⟩

end Go.Proofs.Ytijohedhbbddjaa
