/-
  CaptionsWrapKeeps: for every input of at most 2^20 letters and values the law returns true, and the input reads as it did, where the variables of strconv hold what the program's text lays; tied to the text.
  Conditions: the listed variables; the bulk of the arguments.
-/
import Derived.Test.YtckmebfgianeoaaDoorLawKeep
import Derived.Test.YtckmebfgianeoaaDoorUpto
import Derived.Test.YtckmebfgianeoaaDoorDoor29
import Derived.Test.YtckmebfgianeoaaDoorOpen29
import Derived.Test.YtckmebfgianeoaaDoorLift
import Derived.Test.YtckmebfgianeoaaDoorCards
import Derived.Test.YtckmebfgianeoaaDoorTie
import Derived.ChangeMaps5
import Derived.OpenShut
import Derived.Stop.Joined
import Derived.SevenTiedAt
import Derived.Deep.DeepHandedRow
import Derived.Deep.DeepWitnessRowRef
namespace Go.Proofs.YtckmebfgianeoaaDoor
open Go.ChangeShapes Go.WideShapes Go.ChangeAt Go.RowKit Go.Joins
set_option linter.unusedVariables false
theorem str_weight {P : Program} {H : Type} {t : TypeId} {ts : List TypeId} {s : ByteArray} {rest : List (DataW H)} (h : (DataW.weightsEach P (t :: ts) (.lit (.string s.data.toList) :: rest)).all (· ≤ reachBytes) = true) : True := trivial
theorem u8_of_wf {x : Int} (h : (Lit.int .u8 x).wf = true) : 0 ≤ x ∧ x ≤ 255 := by
  simp [Lit.wf, IntKind.min, IntKind.max, IntKind.signed, IntKind.bits] at h
  exact ⟨by omega, by omega⟩

set_option maxRecDepth 100000 in
theorem captionsWrapKeepsUpto_lifted (os : Os) (started : os.Started) (H : Type) (enc : TypeId × Value → H) (F : Stop.Interp) :
    ReturnsInHanded {} Tryd.checked os 5 .any ((Rows.OpenSpec.upto Rows.captionsWrapKeepsSpec).preRow enc Tryd.prog Tryd.f5 Rows.captionsWrapKeepsUptoRow.domain false Rows.captionsWrapKeepsUptoRow.laid) (((Rows.OpenSpec.upto Rows.captionsWrapKeepsSpec).at F).post enc Tryd.prog Tryd.f5 false true false false) := by
  obtain ⟨places, hx⟩ : ∃ places, DataW.whole enc Tryd.prog ((World.doorLaid Tryd.prog 24 os).forCall (fun _ _ => 0) ⟨#[], #[.string ByteArray.empty, .int .u8 0], []⟩).memory Tryd.f5.params.toList Rows.captionsWrapKeepsSpec.vars false (#[.string ByteArray.empty, .int .u8 0] : Array Value).toList 8 = some ([.lit (.string []), .lit (.int .u8 0)], [], places) := ⟨[], by kernel_rfl⟩
  refine returnsInHanded_of_row (C := Tryd.checked) (s := Rows.OpenSpec.upto Rows.captionsWrapKeepsSpec) own started (by kernel_rfl) Tryd.func5
    (witness_row_atRef (enc := enc) (C := Tryd.checked) false (World.doorLaid Tryd.prog 24 os) #[.string ByteArray.empty, .int .u8 0] rfl (by kernel_rfl) (by kernel_rfl) (by kernel_rfl)
      (OpenSpec.preRow_of_cond 8 hx (by kernel_rfl) (fun k hk => by cases hk; kernel_rfl) (by kernel_rfl) (laid29_met os _))) ?_
  intro W base args ds gs before hval0 hW _ hcond hWt hL _ _
  have hBk := upto_bound (hcond _ rfl)
  have hval : ∀ (j : Nat) t v, Tryd.f5.params[j]? = some t → args[j]? = some v → Value.okWide Tryd.prog W .any base t v := hval0
  have hW' := hW
  obtain ⟨p, q, hA0, hV, _, _, _⟩ := hW
  have hA : DataW.TrodAll enc Tryd.prog W 0 (fun _ => true) true Tryd.f5.params.toList args.toList ds p := hA0
  rw [Tryd.params5] at hA hval hWt
  obtain ⟨v0, vs0, d0, ds0, p0, q0, hargs, rfl, rfl, h0, r0⟩ := trodAll_cons hA
  obtain ⟨v1, vs1, d1, ds1, p1, q1, rfl, rfl, rfl, h1, r1⟩ := trodAll_cons r0
  obtain ⟨rfl, rfl, rfl⟩ := trodAll_nil r1
  obtain rfl : args = #[v0, v1] := by cases args; simp_all
  obtain ⟨rfl, rfl⟩ := trodVars_none hV
  obtain ⟨a0, rfl, rfl, rfl, w0⟩ := ChangeMaps.open_string Tryd.underlying9 (hval 0 9 v0 rfl rfl) h0
  have u0 := str_weight hWt
  obtain ⟨a1, rfl, rfl, rfl, w1⟩ := open_int Tryd.underlying5 (hval 1 5 v1 rfl rfl) h1
  have hO := pow_of_laid hL
  refine (lawKeep_walk a0 a1 W (by have := upto_str hBk; omega) (u8_of_wf w1) hO).mono fun e W' ⟨he, hg⟩ => ?_
  subst he
  exact ⟨_, rfl, law_post 4 laidOut (by kernel_rfl) rfl Tryd.underlying4 rfl rfl rfl rfl hW' hg⟩

theorem captionsWrapKeepsUpto_holds : Rows.CaptionsWrapKeepsUptoSaid :=
  OpenClaim.holds_of_cond 5 Tryd.f5 rfl rfl rfl rfl rfl rfl rfl ⟨rfl, rfl, rfl, rfl, rfl⟩ rfl rfl rfl rfl rfl (by kernel_rfl) Tryd.func5 (by kernel_rfl)
    (of_decide_eq_true (by kernel_rfl)) (by unfold Func.isWrapper; first | (rw [if_pos (by decide +kernel)]; kernel_rfl) | (rw [if_neg (by decide +kernel)]; exact ⟨rfl, rfl⟩))
    (fun os started H enc _ F => by rw [OpenClaim.pre_eq_preRow]; exact captionsWrapKeepsUpto_lifted os started H enc F)
#print axioms captionsWrapKeepsUpto_holds

theorem captionsWrapKeepsUptoCard_holds : Rows.CaptionsWrapKeepsUptoCardSaid :=
  Claim7.holds_tied_plain_at .later [] Rows.captionsWrapKeepsUptoCard.laidKinds true Rows.captionsWrapKeepsUptoCard.stood.harness Rows.captionsWrapKeepsUptoCard.stood.looks
    captionsWrapKeepsUpto_holds (fun _ h => by cases h) (by kernel_rfl) (fun _ h => by cases h) captionsWrapKeepsUpto_row_tie rfl ⟨rfl, rfl⟩ (by kernel_rfl) rfl
    (fun f fn hf hfn => by
      obtain rfl : f = 5 := Option.some.inj ((show Tryd.prog.funcNamed Rows.captionsWrapKeepsUptoRow.func = some 5 by kernel_rfl).symm.trans hf) |>.symm
      obtain rfl : fn = Tryd.f5 := (Option.some.inj (Tryd.func5.symm.trans hfn)).symm
      exact ⟨by kernel_rfl, fun j t ht => by
        rw [Tryd.params5] at ht
        have hm : t ∈ [9, 5] := by simpa using Array.mem_of_getElem? ht
        have hall : ([9, 5].all fun u => !Tryd.prog.wantsStandIn u) = true := by kernel_rfl
        exact (show Tryd.prog.wantsStandIn t = false by simpa using List.all_eq_true.1 hall t hm)⟩)
    (by kernel_rfl)
#print axioms captionsWrapKeepsUptoCard_holds
end Go.Proofs.YtckmebfgianeoaaDoor
