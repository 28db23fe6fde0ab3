/- Proved: a track that is told on, and one that is held against a measured number, are as the document says; so is how far that is off. The law KalmanGoes returns true for every input, and its arguments read behind the call as before it. No condition. -/
import Derived.Test.YtijohedhbbddjaaZ29
import Derived.Test.YtijohedhbbddjaaZ31
namespace Go.Proofs.Ytijohedhbbddjaa
open Go.ChangeShapes Go.WideShapes Go.ChangeAt Go.RowKit Go.Joins

set_option maxRecDepth 100000 in
theorem kalmanGoes_lifted (os : Os) (started : os.Started) (H : Type) (enc : TypeId × Value → H) :
    ReturnsInHanded {} Try.checked os 10 .any (Rows.kalmanGoesSpec.pre6 enc Try.prog Try.f10 Rows.kalmanGoesRow.domain false) (Rows.kalmanGoesSpec.post enc Try.prog Try.f10 false true false false) := by
  refine returnsInHanded_of_change (C := Try.checked) Try.own started (by kernel_rfl) Try.func10
    (ChangeSpec.witness6 (enc := enc) (C := Try.checked) false ⟨#[], #[.agg #[.int .i64 0, .int .i64 0, .slice none 0 0, .int .i64 0, .int .i64 0, .slice none 0 0, .int .i64 0, .int .i64 0, .slice none 0 0, .int .i64 0, .int .i64 0, .slice none 0 0, .int .i64 0, .int .i64 0, .slice none 0 0, .int .i64 0, .int .i64 0, .int .i64 0]], []⟩ 8 (by kernel_rfl) (by kernel_rfl) (by kernel_rfl) (by kernel_rfl)) ?_
  intro W base args ds gs before hval0 hW hcnd _
  have hval : ∀ (j : Nat) t v, Try.f10.params[j]? = some t → args[j]? = some v → Value.okWide Try.prog W .any base t v := hval0
  have hW' := hW
  obtain ⟨p, q, hA0, hV, rfl, hfz, hnd⟩ := hW
  have hA : DataW.TrodAll enc Try.prog W 0 (fun _ => true) true Try.f10.params.toList args.toList ds p := hA0
  rw [Try.params10] at hA hval
  have hAk := hA
  obtain ⟨v0, d0, rfl, rfl, h0⟩ := trodAll_one hA
  obtain ⟨rfl, rfl⟩ := trodVars_none hV
  obtain ⟨xr, xc, pr, pc, fr, fc, qr, qc, hr, hc, n0, n1, n2, vx, vp, vf, vq, vh, xs, ps, fs, qs, hs, rfl, hx, hp, hf, hq, hh, lx, lp, lf, lq, lh⟩ := goes_open (hval 0 _ _ rfl rfl) h0
  clear hA0 hval0
  simp only [List.append_nil] at hW'
  refine (kalmanGoes_any W _ _ _ _ _ _ _ _ _ _ _ _ _ _ _ _ _ _ xs ps fs qs hs hx hp hf hq hh lx lp lf lq lh).mono fun e W' ⟨he, hb⟩ => ?_
  subst he
  exact ⟨_, rfl, _, _, _, [], _, [], hW', trodAll_mk1 (shut_bool Try.underlying4 true), below_trodAll Try.laidOut hb (by kernel_rfl) hAk (fun x hx => hW'.lt x (by first | exact hx | simpa using hx)), rfl, hb.frame _, fun h => by cases h⟩

theorem kalmanGoes_holds : Rows.KalmanGoesSaid :=
  OpenClaim.holds_of_wide 10 Try.f10 rfl rfl rfl rfl rfl rfl rfl ⟨rfl, rfl, rfl, rfl, rfl⟩ rfl rfl rfl rfl rfl (by kernel_rfl) Try.func10 (by kernel_rfl)
    (of_decide_eq_true (by kernel_rfl)) (by unfold Func.isWrapper; rw [if_neg (of_decide_eq_false (by kernel_rfl))]; exact ⟨rfl, rfl⟩)
    (fun os started H enc _ => kalmanGoes_lifted os started H enc)

#print axioms kalmanGoes_holds
end Go.Proofs.Ytijohedhbbddjaa
