/-
  RationalPosition: for every input the law returns true, and the input reads as it did.
  Conditions: none.
-/
import Derived.Test.YtclfiaemjdflbaaWalkQ
import Derived.Test.YtclfiaemjdflbaaLift
namespace Go.Proofs.Ytclfiaemjdflbaa
open Go.ChangeShapes Go.WideShapes Go.ChangeAt Go.RowKit Go.Joins
set_option linter.unusedVariables false

theorem lawPosition_walk_ (n fn fd tn td : Int) (w : World) (hn : I64 n) (h1 : I64 fn) (h2 : I64 fd) (h3 : I64 tn) (h4 : I64 td) :
    Calls Try.prog 7 #[.int .i64 n, .agg #[.int .i64 fn, .int .i64 fd], .agg #[.int .i64 tn, .int .i64 td]] w fun e w' => e = .returned (.bool true) ∧ Gr w w' := lawPosition_walk n fn fd tn td w hn h1 h2 h3 h4

set_option maxRecDepth 100000 in
theorem rationalPosition_lifted (os : Os) (started : os.Started) (H : Type) (enc : TypeId × Value → H) :
    ReturnsInHanded {} Try.checked os 7 .any (Rows.rationalPositionSpec.pre6 enc Try.prog Try.f7 Rows.rationalPositionRow.domain false) (Rows.rationalPositionSpec.post enc Try.prog Try.f7 false true false false) := by
  refine returnsInHanded_of_change (C := Try.checked) own started (by kernel_rfl) Try.func7
    (ChangeSpec.witness6 (enc := enc) (C := Try.checked) false ⟨#[], #[.int .i64 0, .agg #[.int .i64 0, .int .i64 0], .agg #[.int .i64 0, .int .i64 0]], []⟩ 8 (by kernel_rfl) (by kernel_rfl) (by kernel_rfl) (by kernel_rfl)) ?_
  intro W base args ds gs before hval0 hW _ _
  have hval : ∀ (j : Nat) t v, Try.f7.params[j]? = some t → args[j]? = some v → Value.okWide Try.prog W .any base t v := hval0
  have hW' := hW
  obtain ⟨p, q, hA0, hV, _, _, _⟩ := hW
  have hA : DataW.TrodAll enc Try.prog W 0 (fun _ => true) true Try.f7.params.toList args.toList ds p := hA0
  rw [Try.params7] at hA hval
  obtain ⟨v0, vs0, d0, ds0, p0, q0, hargs, rfl, rfl, h0, r0⟩ := trodAll_cons hA
  obtain ⟨v1, vs1, d1, ds1, p1, q1, rfl, rfl, rfl, h1, r1⟩ := trodAll_cons r0
  obtain ⟨v2, vs2, d2, ds2, p2, q2, rfl, rfl, rfl, h2, r2⟩ := trodAll_cons r1
  obtain ⟨rfl, rfl, rfl⟩ := trodAll_nil r2
  obtain rfl : args = #[v0, v1, v2] := by cases args; simp_all
  obtain ⟨rfl, rfl⟩ := trodVars_none hV
  obtain ⟨a0, rfl, rfl, rfl, w0⟩ := open_int Try.underlying2 (hval 0 2 v0 rfl rfl) h0
  obtain ⟨c10, c11, y10, y11, m1, rfl, rfl, rfl, hy10, hy11⟩ := open_agg2 Try.underlying23 (by kernel_rfl) (by kernel_rfl) (hval 1 23 v1 rfl rfl) h1
  obtain ⟨a10, e10, rfl, w10⟩ := DataW.trod_int Try.underlying2 hy10
  obtain ⟨a11, e11, rfl, w11⟩ := DataW.trod_int Try.underlying2 hy11
  simp at e10 e11; subst e10 e11
  obtain ⟨c20, c21, y20, y21, m2, rfl, rfl, rfl, hy20, hy21⟩ := open_agg2 Try.underlying23 (by kernel_rfl) (by kernel_rfl) (hval 2 23 v2 rfl rfl) h2
  obtain ⟨a20, e20, rfl, w20⟩ := DataW.trod_int Try.underlying2 hy20
  obtain ⟨a21, e21, rfl, w21⟩ := DataW.trod_int Try.underlying2 hy21
  simp at e20 e21; subst e20 e21
  refine (lawPosition_walk_ a0 a10 a11 a20 a21 W (i64_of_wf w0) (i64_of_wf w10) (i64_of_wf w11) (i64_of_wf w20) (i64_of_wf w21)).mono fun e W' ⟨he, hg⟩ => ?_
  subst he
  exact ⟨_, rfl, law_post 4 laidOut (by kernel_rfl) rfl Try.underlying4 rfl rfl rfl rfl hW' hg⟩

theorem rationalPosition_holds : Rows.RationalPositionSaid :=
  OpenClaim.holds_of_wide 7 Try.f7 rfl rfl rfl rfl rfl rfl rfl ⟨rfl, rfl, rfl, rfl, rfl⟩ rfl rfl rfl rfl rfl (by kernel_rfl) Try.func7 (by kernel_rfl)
    (of_decide_eq_true (by kernel_rfl)) (by unfold Func.isWrapper; first | (rw [if_pos (by decide +kernel)]; kernel_rfl) | (rw [if_neg (by decide +kernel)]; exact ⟨rfl, rfl⟩))
    (fun os started H enc _ => rationalPosition_lifted os started H enc)
#print axioms rationalPosition_holds
end Go.Proofs.Ytclfiaemjdflbaa
