/-
  RationalRounds: for every input the law returns true, and the input reads as it did.
  Conditions: none.
-/
import Derived.Test.YtclfiaemjdflbaaWalkJ
import Derived.Test.YtclfiaemjdflbaaReg
import Derived.Test.YtclfiaemjdflbaaLift
namespace Go.Proofs.Ytclfiaemjdflbaa
open Go.ChangeShapes Go.WideShapes Go.ChangeAt Go.RowKit Go.Joins
set_option linter.unusedVariables false
set_option linter.unusedSimpArgs false

set_option maxHeartbeats 1000000 in
theorem lawRounds_walk (n d : Int) (w : World) (hn : I64 n) (hd : I64 d) :
    Calls Try.prog 5 #[.agg #[.int .i64 n, .int .i64 d]] w fun e w' => e = .returned (.bool true) ∧ Gr w w' := by
  have H1 := Lib.hid (fun w => floor_any n d w hn hd)
  have H2 := Lib.hid (fun w => rfloor_any n d w hn hd)
  have H3 := Lib.hid (fun w => round_any n d w hn hd)
  have H4 := Lib.hid (fun w => rround_any n d w hn hd)
  go_enter Try.func5, Try.ntmps5
  go_wp2
  refine wp_region_gr (by kernel_rfl) (by kernel_rfl) (fun hq1 hq2 => ?_)
  repeat (first | go_big_quiet_skip | (go_big_quiet_want; go_big_quiet_op; first | go_big_quiet_on | (apply Exists.intro; refine ⟨fun _ => ?_, ?_⟩; (· (first | (go_at_call 17; exact gr_call (H1.out _)) | (go_at_call 18; exact gr_call (H2.out _)) | (go_at_call 19; exact gr_call (H3.out _)) | (go_at_call 20; exact gr_call (H4.out _)) | (go_at_call 14; exact gr_call (awake_any _)))); go_big_quiet_on)))
  refine wpQuiet_nil ?_
  clear hq1 hq2
  rintro w1 ⟨⟨_, hg1⟩, rfl⟩
  obtain ⟨hc1, hf1⟩ := hg1.cells
  have hz1 := hg1.size
  try simp at hz1
  go_wp2
  go_ret
  exact ⟨ret_bool rfl, (by repeat (first | exact Gr.refl _ | assumption | refine Gr.alloc ?_ _ | refine Gr.drew ?_ | refine Gr.drewN ?_ _ | refine Gr.setCell ?_ (by first | omega | (simp; done) | (simp; omega)) _ | refine Gr.trans ?_ (by assumption)))⟩

set_option maxRecDepth 100000 in
theorem rationalRounds_lifted (os : Os) (started : os.Started) (H : Type) (enc : TypeId × Value → H) :
    ReturnsInHanded {} Try.checked os 5 .any (Rows.rationalRoundsSpec.pre6 enc Try.prog Try.f5 Rows.rationalRoundsRow.domain false) (Rows.rationalRoundsSpec.post enc Try.prog Try.f5 false true false false) := by
  refine returnsInHanded_of_change (C := Try.checked) own started (by kernel_rfl) Try.func5
    (ChangeSpec.witness6 (enc := enc) (C := Try.checked) false ⟨#[], #[.agg #[.int .i64 0, .int .i64 0]], []⟩ 8 (by kernel_rfl) (by kernel_rfl) (by kernel_rfl) (by kernel_rfl)) ?_
  intro W base args ds gs before hval0 hW _ _
  have hval : ∀ (j : Nat) t v, Try.f5.params[j]? = some t → args[j]? = some v → Value.okWide Try.prog W .any base t v := hval0
  have hW' := hW
  obtain ⟨p, q, hA0, hV, _, _, _⟩ := hW
  have hA : DataW.TrodAll enc Try.prog W 0 (fun _ => true) true Try.f5.params.toList args.toList ds p := hA0
  rw [Try.params5] at hA hval
  obtain ⟨v0, vs0, d0, ds0, p0, q0, hargs, rfl, rfl, h0, r0⟩ := trodAll_cons hA
  obtain ⟨rfl, rfl, rfl⟩ := trodAll_nil r0
  obtain rfl : args = #[v0] := by cases args; simp_all
  obtain ⟨rfl, rfl⟩ := trodVars_none hV
  obtain ⟨c00, c01, y00, y01, m0, rfl, rfl, rfl, hy00, hy01⟩ := open_agg2 Try.underlying23 (by kernel_rfl) (by kernel_rfl) (hval 0 23 v0 rfl rfl) h0
  obtain ⟨a00, e00, rfl, w00⟩ := DataW.trod_int Try.underlying2 hy00
  obtain ⟨a01, e01, rfl, w01⟩ := DataW.trod_int Try.underlying2 hy01
  simp at e00 e01; subst e00 e01
  refine (lawRounds_walk a00 a01 W (i64_of_wf w00) (i64_of_wf w01)).mono fun e W' ⟨he, hg⟩ => ?_
  subst he
  exact ⟨_, rfl, law_post 4 laidOut (by kernel_rfl) rfl Try.underlying4 rfl rfl rfl rfl hW' hg⟩

theorem rationalRounds_holds : Rows.RationalRoundsSaid :=
  OpenClaim.holds_of_wide 5 Try.f5 rfl rfl rfl rfl rfl rfl rfl ⟨rfl, rfl, rfl, rfl, rfl⟩ rfl rfl rfl rfl rfl (by kernel_rfl) Try.func5 (by kernel_rfl)
    (of_decide_eq_true (by kernel_rfl)) (by unfold Func.isWrapper; first | (rw [if_pos (by decide +kernel)]; kernel_rfl) | (rw [if_neg (by decide +kernel)]; exact ⟨rfl, rfl⟩))
    (fun os started H enc _ => rationalRounds_lifted os started H enc)
#print axioms rationalRounds_holds
end Go.Proofs.Ytclfiaemjdflbaa
