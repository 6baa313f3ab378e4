/-
  TimecodeInverse: for every input the law returns true, and the input reads as it did.
  Conditions: none.
-/
import Derived.Test.YtehdkoillpebgaaLaw19B
import Derived.Test.YtehdkoillpebgaaLift
import Derived.Test.YtehdkoillpebgaaOpen
namespace Go.Proofs.Ytehdkoillpebgaa
open Go.ChangeShapes Go.WideShapes Go.ChangeAt Go.RowKit Go.Joins Go.Deep
set_option linter.unusedVariables false

set_option maxRecDepth 100000 in
theorem timecodeInverse_lifted (os : Os) (started : os.Started) (H : Type) (enc : TypeId × Value → H) :
    ReturnsInHanded {} Try.checked os 7 .any (Rows.timecodeInverseSpec.pre6 enc Try.prog Try.f7 Rows.timecodeInverseRow.domain false) (Rows.timecodeInverseSpec.post enc Try.prog Try.f7 false true false false) := by
  refine returnsInHanded_of_change (C := Try.checked) own started (by kernel_rfl) Try.func7
    (ChangeSpec.witness6 (enc := enc) (C := Try.checked) false ⟨#[], #[.int .i64 0, .agg #[.int .i64 0, .int .i64 0, .int .i64 0, .int .i64 0, .int .i64 0, .bool false], .int .i64 0, .bool false], []⟩ 8 (by kernel_rfl) (by kernel_rfl) (by kernel_rfl) (by kernel_rfl)) ?_
  intro W base args ds gs before hval0 hW _ _
  have hval : ∀ (j : Nat) t v, Try.f7.params[j]? = some t → args[j]? = some v → Value.okWide Try.prog W .any base t v := hval0
  have hW' := hW
  obtain ⟨p, q, hA0, hV, _, _, _⟩ := hW
  have hA : DataW.TrodAll enc Try.prog W 0 (fun _ => true) true Try.f7.params.toList args.toList ds p := hA0
  rw [Try.params7] at hA hval
  obtain ⟨v0, vs0, d0, ds0, p0, q0, hargs, rfl, rfl, h0, r0⟩ := trodAll_cons hA
  obtain ⟨v1, vs1, d1, ds1, p1, q1, rfl, rfl, rfl, h1, r1⟩ := trodAll_cons r0
  obtain ⟨v2, vs2, d2, ds2, p2, q2, rfl, rfl, rfl, h2, r2⟩ := trodAll_cons r1
  obtain ⟨v3, vs3, d3, ds3, p3, q3, rfl, rfl, rfl, h3, r3⟩ := trodAll_cons r2
  obtain ⟨rfl, rfl, rfl⟩ := trodAll_nil r3
  obtain rfl : args = #[v0, v1, v2, v3] := by cases args; simp_all
  obtain ⟨rfl, rfl⟩ := trodVars_none hV
  obtain ⟨a0, rfl, rfl, rfl, w0⟩ := open_int Try.underlying2 (hval 0 2 v0 rfl rfl) h0
  obtain ⟨vs1, ys1, m1, rfl, lv1, ly1, rfl, rfl, hy1⟩ := open_fields 6 rfl Try.underlying34 (by kernel_rfl) (by kernel_rfl) (hval 1 34 v1 rfl rfl) h1
  obtain ⟨c1_0, c1_1, c1_2, c1_3, c1_4, c1_5, rfl⟩ := list_of6 lv1
  obtain ⟨y1_0, y1_1, y1_2, y1_3, y1_4, y1_5, rfl⟩ := list_of6 ly1
  have q1_0 := hy1 0 _ _ _ rfl rfl rfl
  obtain ⟨a1_0, e1_0, rfl, w1_0⟩ := DataW.trod_int Try.underlying3 q1_0
  simp at e1_0; subst e1_0
  have q1_1 := hy1 1 _ _ _ rfl rfl rfl
  obtain ⟨a1_1, e1_1, rfl, w1_1⟩ := DataW.trod_int Try.underlying3 q1_1
  simp at e1_1; subst e1_1
  have q1_2 := hy1 2 _ _ _ rfl rfl rfl
  obtain ⟨a1_2, e1_2, rfl, w1_2⟩ := DataW.trod_int Try.underlying3 q1_2
  simp at e1_2; subst e1_2
  have q1_3 := hy1 3 _ _ _ rfl rfl rfl
  obtain ⟨a1_3, e1_3, rfl, w1_3⟩ := DataW.trod_int Try.underlying3 q1_3
  simp at e1_3; subst e1_3
  have q1_4 := hy1 4 _ _ _ rfl rfl rfl
  obtain ⟨a1_4, e1_4, rfl, w1_4⟩ := DataW.trod_int Try.underlying3 q1_4
  simp at e1_4; subst e1_4
  have q1_5 := hy1 5 _ _ _ rfl rfl rfl
  obtain ⟨a1_5, e1_5, rfl⟩ := DataW.trod_bool Try.underlying4 q1_5
  simp at e1_5; subst e1_5
  obtain ⟨a2, rfl, rfl, rfl, w2⟩ := open_int Try.underlying3 (hval 2 3 v2 rfl rfl) h2
  obtain ⟨a3, rfl, rfl, rfl⟩ := open_bool Try.underlying4 (hval 3 4 v3 rfl rfl) h3
  refine (lawInverse_walk a0 a1_0 a1_1 a1_2 a1_3 a1_4 a1_5 a2 a3 W (i64_of_wf w0)).mono fun e W' ⟨he, hg⟩ => ?_
  subst he
  exact ⟨_, rfl, law_post 4 laidOut (by kernel_rfl) rfl Try.underlying4 rfl rfl rfl rfl hW' hg⟩

theorem timecodeInverse_holds : Rows.TimecodeInverseSaid :=
  OpenClaim.holds_of_wide 7 Try.f7 rfl rfl rfl rfl rfl rfl rfl ⟨rfl, rfl, rfl, rfl, rfl⟩ rfl rfl rfl rfl rfl (by kernel_rfl) Try.func7 (by kernel_rfl)
    (of_decide_eq_true (by kernel_rfl)) (by unfold Func.isWrapper; first | (rw [if_pos (by decide +kernel)]; kernel_rfl) | (rw [if_neg (by decide +kernel)]; exact ⟨rfl, rfl⟩))
    (fun os started H enc _ => timecodeInverse_lifted os started H enc)
#print axioms timecodeInverse_holds
end Go.Proofs.Ytehdkoillpebgaa
