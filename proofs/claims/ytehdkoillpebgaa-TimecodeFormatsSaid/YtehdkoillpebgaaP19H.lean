/-
  TimecodeFormats: for every input the law returns true, and the input reads as it did.
  Conditions: none.
-/
import Derived.Test.YtehdkoillpebgaaLaw19H
import Derived.Test.YtehdkoillpebgaaLift
import Derived.Test.YtehdkoillpebgaaOpen
namespace Go.Proofs.Ytehdkoillpebgaa
open Go.ChangeShapes Go.WideShapes Go.ChangeAt Go.RowKit Go.Joins Go.Deep
set_option linter.unusedVariables false

set_option maxRecDepth 100000 in
theorem timecodeFormats_lifted (os : Os) (started : os.Started) (H : Type) (enc : TypeId × Value → H) :
    ReturnsInHanded {} Try.checked os 13 .any (Rows.timecodeFormatsSpec.pre6 enc Try.prog Try.f13 Rows.timecodeFormatsRow.domain false) (Rows.timecodeFormatsSpec.post enc Try.prog Try.f13 false true false false) := by
  refine returnsInHanded_of_change (C := Try.checked) own started (by kernel_rfl) Try.func13
    (ChangeSpec.witness6 (enc := enc) (C := Try.checked) false ⟨#[], #[.agg #[.int .i64 0, .int .i64 0, .int .i64 0, .int .i64 0, .int .i64 0, .bool false]], []⟩ 8 (by kernel_rfl) (by kernel_rfl) (by kernel_rfl) (by kernel_rfl)) ?_
  intro W base args ds gs before hval0 hW _ _
  have hval : ∀ (j : Nat) t v, Try.f13.params[j]? = some t → args[j]? = some v → Value.okWide Try.prog W .any base t v := hval0
  have hW' := hW
  obtain ⟨p, q, hA0, hV, _, _, _⟩ := hW
  have hA : DataW.TrodAll enc Try.prog W 0 (fun _ => true) true Try.f13.params.toList args.toList ds p := hA0
  rw [Try.params13] at hA hval
  obtain ⟨v0, vs0, d0, ds0, p0, q0, hargs, rfl, rfl, h0, r0⟩ := trodAll_cons hA
  obtain ⟨rfl, rfl, rfl⟩ := trodAll_nil r0
  obtain rfl : args = #[v0] := by cases args; simp_all
  obtain ⟨rfl, rfl⟩ := trodVars_none hV
  obtain ⟨vs0, ys0, m0, rfl, lv0, ly0, rfl, rfl, hy0⟩ := open_fields 6 rfl Try.underlying34 (by kernel_rfl) (by kernel_rfl) (hval 0 34 v0 rfl rfl) h0
  obtain ⟨c0_0, c0_1, c0_2, c0_3, c0_4, c0_5, rfl⟩ := list_of6 lv0
  obtain ⟨y0_0, y0_1, y0_2, y0_3, y0_4, y0_5, rfl⟩ := list_of6 ly0
  have q0_0 := hy0 0 _ _ _ rfl rfl rfl
  obtain ⟨a0_0, e0_0, rfl, w0_0⟩ := DataW.trod_int Try.underlying3 q0_0
  simp at e0_0; subst e0_0
  have q0_1 := hy0 1 _ _ _ rfl rfl rfl
  obtain ⟨a0_1, e0_1, rfl, w0_1⟩ := DataW.trod_int Try.underlying3 q0_1
  simp at e0_1; subst e0_1
  have q0_2 := hy0 2 _ _ _ rfl rfl rfl
  obtain ⟨a0_2, e0_2, rfl, w0_2⟩ := DataW.trod_int Try.underlying3 q0_2
  simp at e0_2; subst e0_2
  have q0_3 := hy0 3 _ _ _ rfl rfl rfl
  obtain ⟨a0_3, e0_3, rfl, w0_3⟩ := DataW.trod_int Try.underlying3 q0_3
  simp at e0_3; subst e0_3
  have q0_4 := hy0 4 _ _ _ rfl rfl rfl
  obtain ⟨a0_4, e0_4, rfl, w0_4⟩ := DataW.trod_int Try.underlying3 q0_4
  simp at e0_4; subst e0_4
  have q0_5 := hy0 5 _ _ _ rfl rfl rfl
  obtain ⟨a0_5, e0_5, rfl⟩ := DataW.trod_bool Try.underlying4 q0_5
  simp at e0_5; subst e0_5
  refine (lawFormats_walk a0_0 a0_1 a0_2 a0_3 a0_4 a0_5 W).mono fun e W' ⟨he, hg⟩ => ?_
  subst he
  exact ⟨_, rfl, law_post 4 laidOut (by kernel_rfl) rfl Try.underlying4 rfl rfl rfl rfl hW' hg⟩

theorem timecodeFormats_holds : Rows.TimecodeFormatsSaid :=
  OpenClaim.holds_of_wide 13 Try.f13 rfl rfl rfl rfl rfl rfl rfl ⟨rfl, rfl, rfl, rfl, rfl⟩ rfl rfl rfl rfl rfl (by kernel_rfl) Try.func13 (by kernel_rfl)
    (of_decide_eq_true (by kernel_rfl)) (by unfold Func.isWrapper; first | (rw [if_pos (by decide +kernel)]; kernel_rfl) | (rw [if_neg (by decide +kernel)]; exact ⟨rfl, rfl⟩))
    (fun os started H enc _ => timecodeFormats_lifted os started H enc)
#print axioms timecodeFormats_holds
end Go.Proofs.Ytehdkoillpebgaa
