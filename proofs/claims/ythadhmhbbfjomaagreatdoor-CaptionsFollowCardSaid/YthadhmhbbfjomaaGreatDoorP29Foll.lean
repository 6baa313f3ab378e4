/-
  CaptionsFollow: for every input the law returns true, and the input reads as it did, where the variables of strconv hold what the program's text lays; tied to the text.
  Conditions: the listed variables.
-/
import Derived.Test.YthadhmhbbfjomaaGreatDoorLawFoll
import Derived.Test.YthadhmhbbfjomaaGreatDoorDoor29
import Derived.Test.YthadhmhbbfjomaaGreatDoorOpen29
import Derived.Test.YthadhmhbbfjomaaGreatDoorLift
import Derived.Test.YthadhmhbbfjomaaGreatDoorCards
import Derived.Test.YthadhmhbbfjomaaGreatDoorTie
import Derived.ChangeMaps5
import Derived.OpenShut
import Derived.Stop.Joined
import Derived.SevenTiedAt
namespace Go.Proofs.YthadhmhbbfjomaaGreatDoor
open Go.ChangeShapes Go.WideShapes Go.ChangeAt Go.RowKit Go.Joins
set_option linter.unusedVariables false

set_option maxRecDepth 100000 in
theorem captionsFollow_lifted (os : Os) (started : os.Started) (H : Type) (enc : TypeId × Value → H) :
    ReturnsInHanded {} Tryz.checked os 3 .any (fun w args => (Rows.captionsFollowSpec.pre enc Tryz.prog Tryz.f3 [] false w args ∧ laidMetH Tryz.prog laid29 w) ∧ sizedMet enc Tryz.prog Tryz.f3 (OpenSpec.ofChange Rows.captionsFollowSpec) false w args) (Rows.captionsFollowSpec.post enc Tryz.prog Tryz.f3 false true false false) := by
  refine returnsInHanded_of_change_and (C := Tryz.checked) (X := fun w _ => laidMetH Tryz.prog laid29 w) (fun _ _ _ hh h => h.of_heap hh) own started (by kernel_rfl) Tryz.func3
    (ChangeSpec.witness_shaped (enc := enc) (C := Tryz.checked) (os := os) (X := fun w _ => laidMetH Tryz.prog laid29 w) false (World.doorLaid Tryz.prog 24 os) #[.slice none 0 0, .slice none 0 0] 8 rfl (World.shaped_of_RefB (by kernel_rfl) (by kernel_rfl)) (by kernel_rfl) (by kernel_rfl) (by kernel_rfl) (laid29_met os _)) ?_
  intro W base args ds gs before hval0 hW _ hWt hL _
  have hval : ∀ (j : Nat) t v, Tryz.f3.params[j]? = some t → args[j]? = some v → Value.okWide Tryz.prog W .any base t v := hval0
  have hW' := hW
  obtain ⟨p, q, hA0, hV, _, _, _⟩ := hW
  have hA : DataW.TrodAll enc Tryz.prog W 0 (fun _ => true) true Tryz.f3.params.toList args.toList ds p := hA0
  rw [Tryz.params3] at hA hval hWt
  obtain ⟨v0, vs0, d0, ds0, p0, q0, hargs, rfl, rfl, h0, r0⟩ := trodAll_cons hA
  obtain ⟨v1, vs1, d1, ds1, p1, q1, rfl, rfl, rfl, h1, r1⟩ := trodAll_cons r0
  obtain ⟨rfl, rfl, rfl⟩ := trodAll_nil r1
  obtain rfl : args = #[v0, v1] := by cases args; simp_all
  obtain ⟨rfl, rfl⟩ := trodVars_none hV
  obtain ⟨f0, h0x⟩ := h0
  obtain ⟨sa0, sl0, sc0, rfl⟩ := okWide_slice Tryz.underlying22 (hval 0 22 v0 rfl rfl)
  obtain ⟨a0, cap0, xs0, e0, hc0⟩ := ints_open h0x (weight_at hWt 0 rfl rfl)
  obtain ⟨rfl, rfl, rfl⟩ : sa0 = a0 ∧ sl0 = xs0.length ∧ sc0 = cap0 := by simpa using e0
  obtain ⟨f1, h1x⟩ := h1
  obtain ⟨sa1, sl1, sc1, rfl⟩ := okWide_slice Tryz.underlying23 (hval 1 23 v1 rfl rfl)
  obtain ⟨a1, cap1, xs1, e1, hc1⟩ := bytes_open h1x (weight_at hWt 1 rfl rfl)
  obtain ⟨rfl, rfl, rfl⟩ : sa1 = a1 ∧ sl1 = xs1.length ∧ sc1 = cap1 := by simpa using e1
  have hO := pow_of_laid hL
  refine (lawFoll_walk _ _ xs0 _ _ xs1 W hc0 hc1 hO).mono fun e W' ⟨he, hg⟩ => ?_
  subst he
  exact ⟨_, rfl, law_post 4 laidOut (by kernel_rfl) rfl Tryz.underlying4 rfl rfl rfl rfl hW' hg⟩

theorem captionsFollow_holds : Rows.CaptionsFollowSaid :=
  OpenClaim.holds_of_wide 3 Tryz.f3 rfl rfl rfl rfl rfl rfl rfl ⟨rfl, rfl, rfl, rfl, rfl⟩ rfl rfl rfl rfl rfl (by kernel_rfl) Tryz.func3 (by kernel_rfl)
    (of_decide_eq_true (by kernel_rfl)) (by unfold Func.isWrapper; first | (rw [if_pos (by decide +kernel)]; kernel_rfl) | (rw [if_neg (by decide +kernel)]; exact ⟨rfl, rfl⟩))
    (fun os started H enc _ => captionsFollow_lifted os started H enc)
#print axioms captionsFollow_holds

theorem captionsFollowCard_holds : Rows.CaptionsFollowCardSaid :=
  Claim7.holds_tied_plain_at .later [] Rows.captionsFollowCard.laidKinds true Rows.captionsFollowCard.stood.harness Rows.captionsFollowCard.stood.looks
    captionsFollow_holds (fun _ h => by cases h) (by kernel_rfl) (fun _ h => by cases h) captionsFollow_row_tie rfl ⟨rfl, rfl⟩ (by kernel_rfl) rfl
    (fun f fn hf hfn => by
      obtain rfl : f = 3 := Option.some.inj ((show Tryz.prog.funcNamed Rows.captionsFollowRow.func = some 3 by kernel_rfl).symm.trans hf) |>.symm
      obtain rfl : fn = Tryz.f3 := (Option.some.inj (Tryz.func3.symm.trans hfn)).symm
      exact ⟨by kernel_rfl, fun j t ht => by
        rw [Tryz.params3] at ht
        have hm : t ∈ [22, 23] := by simpa using Array.mem_of_getElem? ht
        have hall : ([22, 23].all fun u => !Tryz.prog.wantsStandIn u) = true := by kernel_rfl
        exact (show Tryz.prog.wantsStandIn t = false by simpa using List.all_eq_true.1 hall t hm)⟩)
    (by kernel_rfl)
#print axioms captionsFollowCard_holds
end Go.Proofs.YthadhmhbbfjomaaGreatDoor
