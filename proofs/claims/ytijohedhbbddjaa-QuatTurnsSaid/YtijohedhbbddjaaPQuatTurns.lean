/- Proved: three numbers that are turned, and a small turn, are as the document says. The law QuatTurns returns true for every input, and its arguments read behind the call as before it. No condition. -/
import Derived.Test.YtijohedhbbddjaaLQuatTurns
import Derived.Test.YtijohedhbbddjaaF4
namespace Go.Proofs.Ytijohedhbbddjaa
open Go.ChangeShapes Go.WideShapes Go.ChangeAt Go.RowKit Go.Joins

set_option maxRecDepth 100000 in
theorem quatTurns_lifted (os : Os) (started : os.Started) (H : Type) (enc : TypeId × Value → H) :
    ReturnsInHanded {} Try.checked os 9 .any (Rows.quatTurnsSpec.pre6 enc Try.prog Try.f9 Rows.quatTurnsRow.domain false) (Rows.quatTurnsSpec.post enc Try.prog Try.f9 false true false false) := by
  refine returnsInHanded_of_change (C := Try.checked) Try.own started (by kernel_rfl) Try.func9
    (ChangeSpec.witness6 (enc := enc) (C := Try.checked) false ⟨#[], #[.agg #[.int .i64 0, .int .i64 0, .int .i64 0, .int .i64 0], .agg #[.int .i64 0, .int .i64 0, .int .i64 0], .int .i64 0], []⟩ 8 (by kernel_rfl) (by kernel_rfl) (by kernel_rfl) (by kernel_rfl)) ?_
  intro W base args ds gs before hval0 hW hcnd _
  have hval : ∀ (j : Nat) t v, Try.f9.params[j]? = some t → args[j]? = some v → Value.okWide Try.prog W .any base t v := hval0
  have hW' := hW
  obtain ⟨p, q, hA0, hV, rfl, hfz, hnd⟩ := hW
  have hA : DataW.TrodAll enc Try.prog W 0 (fun _ => true) true Try.f9.params.toList args.toList ds p := hA0
  rw [Try.params9] at hA hval
  have hAk := hA
  obtain ⟨v0, v1, v2, d0, d1, d2, p0, p1, p2, rfl, rfl, rfl, h0, h1, h2⟩ := trodAll_three hA
  obtain ⟨rfl, rfl⟩ := trodVars_none hV
  obtain ⟨q0, rfl⟩ := q4_open (hval 0 _ _ rfl rfl) h0
  obtain ⟨x1, y1, z1, rfl⟩ := v3_open (hval 1 _ _ rfl rfl) h1
  obtain ⟨k2, rfl, rfl, rfl, wk2⟩ := open_int Try.underlying25 (hval 2 _ _ rfl rfl) h2
  clear hA0 hval0
  simp only [List.append_nil] at hW'
  refine (quatTurns_any W q0 x1 y1 z1 k2 (wf_bd wk2).1 (wf_bd wk2).2).mono fun e W' ⟨he, hb⟩ => ?_
  subst he
  exact ⟨_, rfl, _, _, _, [], _, [], hW', trodAll_mk1 (shut_bool Try.underlying4 true), below_trodAll Try.laidOut hb (by kernel_rfl) hAk (fun x hx => hW'.lt x (by first | exact hx | simpa using hx)), rfl, hb.frame _, fun h => by cases h⟩

theorem quatTurns_holds : Rows.QuatTurnsSaid :=
  OpenClaim.holds_of_wide 9 Try.f9 rfl rfl rfl rfl rfl rfl rfl ⟨rfl, rfl, rfl, rfl, rfl⟩ rfl rfl rfl rfl rfl (by kernel_rfl) Try.func9 (by kernel_rfl)
    (of_decide_eq_true (by kernel_rfl)) (by unfold Func.isWrapper; rw [if_neg (of_decide_eq_false (by kernel_rfl))]; exact ⟨rfl, rfl⟩)
    (fun os started H enc _ => quatTurns_lifted os started H enc)

#print axioms quatTurns_holds
end Go.Proofs.Ytijohedhbbddjaa
