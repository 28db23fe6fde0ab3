/- Proved: which matrices are right, one that is turned, scaled, or made even, and those of a diagonal, are as the document says. The law MatOne returns true for every input, and its arguments read behind the call as before it. No condition. -/
import Derived.Test.YtijohedhbbddjaaLMatOne
import Derived.Test.YtijohedhbbddjaaF1
namespace Go.Proofs.Ytijohedhbbddjaa
open Go.ChangeShapes Go.WideShapes Go.ChangeAt Go.RowKit Go.Joins

set_option maxRecDepth 100000 in
theorem matOne_lifted (os : Os) (started : os.Started) (H : Type) (enc : TypeId × Value → H) :
    ReturnsInHanded {} Try.checked os 6 .any (Rows.matOneSpec.pre6 enc Try.prog Try.f6 Rows.matOneRow.domain false) (Rows.matOneSpec.post enc Try.prog Try.f6 false true false false) := by
  refine returnsInHanded_of_change (C := Try.checked) Try.own started (by kernel_rfl) Try.func6
    (ChangeSpec.witness6 (enc := enc) (C := Try.checked) false ⟨#[], #[.agg #[.int .i64 0, .int .i64 0, .slice none 0 0, .int .i64 0, .int .i64 0, .slice none 0 0]], []⟩ 8 (by kernel_rfl) (by kernel_rfl) (by kernel_rfl) (by kernel_rfl)) ?_
  intro W base args ds gs before hval0 hW hcnd _
  have hval : ∀ (j : Nat) t v, Try.f6.params[j]? = some t → args[j]? = some v → Value.okWide Try.prog W .any base t v := hval0
  have hW' := hW
  obtain ⟨p, q, hA0, hV, rfl, hfz, hnd⟩ := hW
  have hA : DataW.TrodAll enc Try.prog W 0 (fun _ => true) true Try.f6.params.toList args.toList ds p := hA0
  rw [Try.params6] at hA hval
  have hAk := hA
  obtain ⟨v0, d0, rfl, rfl, h0⟩ := trodAll_one hA
  obtain ⟨rfl, rfl⟩ := trodVars_none hV
  obtain ⟨R0, C0, Z0, N0, s0, t0, xs0, ls0, rfl, hq0, hq0', hl0, hl0'⟩ := one_open (hval 0 _ _ rfl rfl) h0
  clear hA0 hval0
  simp only [List.append_nil] at hW'
  refine (matOne_any W R0 C0 Z0 N0 s0 t0 xs0 ls0 hq0 hq0' hl0 hl0').mono fun e W' ⟨he, hb⟩ => ?_
  subst he
  exact ⟨_, rfl, _, _, _, [], _, [], hW', trodAll_mk1 (shut_bool Try.underlying4 true), below_trodAll Try.laidOut hb (by kernel_rfl) hAk (fun x hx => hW'.lt x (by first | exact hx | simpa using hx)), rfl, hb.frame _, fun h => by cases h⟩

theorem matOne_holds : Rows.MatOneSaid :=
  OpenClaim.holds_of_wide 6 Try.f6 rfl rfl rfl rfl rfl rfl rfl ⟨rfl, rfl, rfl, rfl, rfl⟩ rfl rfl rfl rfl rfl (by kernel_rfl) Try.func6 (by kernel_rfl)
    (of_decide_eq_true (by kernel_rfl)) (by unfold Func.isWrapper; rw [if_neg (of_decide_eq_false (by kernel_rfl))]; exact ⟨rfl, rfl⟩)
    (fun os started H enc _ => matOne_lifted os started H enc)

#print axioms matOne_holds
end Go.Proofs.Ytijohedhbbddjaa
