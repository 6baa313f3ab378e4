/-
  CaptionsParses: for every input of at most 2^20 letters and values the law returns true, and the input reads as it did, where the variables of strconv hold what the program's text lays; tied to the text.
  Conditions: the listed variables; the bulk of the arguments.
-/
import Derived.Test.YtckmebfgianeoaaDoorLawPars
import Derived.Test.YtckmebfgianeoaaDoorUptoC
import Derived.Test.YtckmebfgianeoaaDoorDoor29
import Derived.Test.YtckmebfgianeoaaDoorLift
import Derived.Test.YtckmebfgianeoaaDoorCards
import Derived.Test.YtckmebfgianeoaaDoorTie
import Derived.ChangeMaps5
import Derived.OpenShut
import Derived.Stop.Joined
import Derived.SevenTiedAt
import Derived.Deep.DeepHandedRow
import Derived.Deep.DeepWitnessRowRef
namespace Go.Proofs.YtckmebfgianeoaaDoor
open Go.ChangeShapes Go.WideShapes Go.ChangeAt Go.RowKit Go.Joins
set_option linter.unusedVariables false
theorem str_weight {P : Program} {H : Type} {t : TypeId} {ts : List TypeId} {s : ByteArray} {rest : List (DataW H)} (h : (DataW.weightsEach P (t :: ts) (.lit (.string s.data.toList) :: rest)).all (· ≤ reachBytes) = true) : True := trivial
theorem u8_of_wf {x : Int} (h : (Lit.int .u8 x).wf = true) : 0 ≤ x ∧ x ≤ 255 := by
  simp [Lit.wf, IntKind.min, IntKind.max, IntKind.signed, IntKind.bits] at h
  exact ⟨by omega, by omega⟩

set_option maxRecDepth 100000 in
theorem captionsParsesUpto_lifted (os : Os) (started : os.Started) (H : Type) (enc : TypeId × Value → H) (F : Stop.Interp) :
    ReturnsInHanded {} Tryd.checked os 9 .any ((Rows.OpenSpec.upto Rows.captionsParsesSpec).preRow enc Tryd.prog Tryd.f9 Rows.captionsParsesUptoRow.domain false Rows.captionsParsesUptoRow.laid) (((Rows.OpenSpec.upto Rows.captionsParsesSpec).at F).post enc Tryd.prog Tryd.f9 false true false false) := by
  obtain ⟨places, hx⟩ : ∃ places, DataW.whole enc Tryd.prog ((World.doorLaid Tryd.prog 24 os).forCall (fun _ _ => 0) ⟨#[], #[.string ByteArray.empty, .slice none 0 0, .int .i64 0, .int .u8 0, .agg #[.int .i64 0, .int .i64 0]], []⟩).memory Tryd.f9.params.toList Rows.captionsParsesSpec.vars false (#[.string ByteArray.empty, .slice none 0 0, .int .i64 0, .int .u8 0, .agg #[.int .i64 0, .int .i64 0]] : Array Value).toList 8 = some ([.lit (.string []), .nil, .lit (.int .i64 0), .lit (.int .u8 0), .agg [.lit (.int .i64 0), .lit (.int .i64 0)]], [], places) := ⟨[], by kernel_rfl⟩
  refine returnsInHanded_of_row (C := Tryd.checked) (s := Rows.OpenSpec.upto Rows.captionsParsesSpec) own started (by kernel_rfl) Tryd.func9
    (witness_row_atRef (enc := enc) (C := Tryd.checked) false (World.doorLaid Tryd.prog 24 os) #[.string ByteArray.empty, .slice none 0 0, .int .i64 0, .int .u8 0, .agg #[.int .i64 0, .int .i64 0]] rfl (by kernel_rfl) (by kernel_rfl) (by kernel_rfl)
      (OpenSpec.preRow_of_cond 8 hx (by kernel_rfl) (fun k hk => by cases hk; kernel_rfl) (by kernel_rfl) (laid29_met os _))) ?_
  intro W base args ds gs before hval0 hW _ hcond hWt hL hSh _
  have hBk := upto_bound (hcond _ rfl)
  have hval : ∀ (j : Nat) t v, Tryd.f9.params[j]? = some t → args[j]? = some v → Value.okWide Tryd.prog W .any base t v := hval0
  have hW' := hW
  obtain ⟨p, q, hA0, hV, _, _, _⟩ := hW
  have hA : DataW.TrodAll enc Tryd.prog W 0 (fun _ => true) true Tryd.f9.params.toList args.toList ds p := hA0
  rw [Tryd.params9] at hA hval hWt
  obtain ⟨v0, vs0, d0, ds0, p0, q0, hargs, rfl, rfl, h0, r0⟩ := trodAll_cons hA
  obtain ⟨v1, vs1, d1, ds1, p1, q1, rfl, rfl, rfl, h1, r1⟩ := trodAll_cons r0
  obtain ⟨v2, vs2, d2, ds2, p2, q2, rfl, rfl, rfl, h2, r2⟩ := trodAll_cons r1
  obtain ⟨v3, vs3, d3, ds3, p3, q3, rfl, rfl, rfl, h3, r3⟩ := trodAll_cons r2
  obtain ⟨v4, vs4, d4, ds4, p4, q4, rfl, rfl, rfl, h4, r4⟩ := trodAll_cons r3
  obtain ⟨rfl, rfl, rfl⟩ := trodAll_nil r4
  obtain rfl : args = #[v0, v1, v2, v3, v4] := by cases args; simp_all
  obtain ⟨rfl, rfl⟩ := trodVars_none hV
  obtain ⟨a0, rfl, rfl, rfl, w0⟩ := ChangeMaps.open_string Tryd.underlying9 (hval 0 9 v0 rfl rfl) h0
  have u0 := str_weight hWt
  obtain ⟨f1, h1x⟩ := h1
  obtain ⟨sa1, sl1, sc1, rfl⟩ := okWide_slice Tryd.underlying23 (hval 1 23 v1 rfl rfl)
  obtain ⟨a1, cap1, xs1, e1, hc1⟩ := ints_open h1x (weight_at hWt 1 rfl rfl)
  obtain ⟨rfl, rfl, rfl⟩ : sa1 = a1 ∧ sl1 = xs1.length ∧ sc1 = cap1 := by simpa using e1
  obtain ⟨a2, rfl, rfl, rfl, w2⟩ := open_int Tryd.underlying3 (hval 2 3 v2 rfl rfl) h2
  obtain ⟨a3, rfl, rfl, rfl, w3⟩ := open_int Tryd.underlying5 (hval 3 5 v3 rfl rfl) h3
  obtain ⟨c40, c41, y40, y41, m4, rfl, rfl, rfl, hy40, hy41⟩ := open_agg2 Tryd.underlying47 (by kernel_rfl) (by kernel_rfl) (hval 4 47 v4 rfl rfl) h4
  obtain ⟨a40, e40, rfl, w40⟩ := DataW.trod_int Tryd.underlying2 hy40
  obtain ⟨a41, e41, rfl, w41⟩ := DataW.trod_int Tryd.underlying2 hy41
  simp at e40 e41; subst e40 e41
  have hO := pow_of_laid hL
  refine (lawPars_walk a0 _ _ xs1 a2 a3 a40 a41 W (by have := upto_str hBk; omega) hc1 (i64_of_wf w2) (u8_of_wf w3) (i64_of_wf w40) (i64_of_wf w41) hO (Mx.of_shaped hSh)).mono fun e W' ⟨he, hg⟩ => ?_
  subst he
  exact ⟨_, rfl, law_post 4 laidOut (by kernel_rfl) rfl Tryd.underlying4 rfl rfl rfl rfl hW' hg⟩

theorem captionsParsesUpto_holds : Rows.CaptionsParsesUptoSaid :=
  OpenClaim.holds_of_cond 9 Tryd.f9 rfl rfl rfl rfl rfl rfl rfl ⟨rfl, rfl, rfl, rfl, rfl⟩ rfl rfl rfl rfl rfl (by kernel_rfl) Tryd.func9 (by kernel_rfl)
    (of_decide_eq_true (by kernel_rfl)) (by unfold Func.isWrapper; first | (rw [if_pos (by decide +kernel)]; kernel_rfl) | (rw [if_neg (by decide +kernel)]; exact ⟨rfl, rfl⟩))
    (fun os started H enc _ F => by rw [OpenClaim.pre_eq_preRow]; exact captionsParsesUpto_lifted os started H enc F)
#print axioms captionsParsesUpto_holds

theorem captionsParsesUptoCard_holds : Rows.CaptionsParsesUptoCardSaid :=
  Claim7.holds_tied_plain_at .later [] Rows.captionsParsesUptoCard.laidKinds true Rows.captionsParsesUptoCard.stood.harness Rows.captionsParsesUptoCard.stood.looks
    captionsParsesUpto_holds (fun _ h => by cases h) (by kernel_rfl) (fun _ h => by cases h) captionsParsesUpto_row_tie rfl ⟨rfl, rfl⟩ (by kernel_rfl) rfl
    (fun f fn hf hfn => by
      obtain rfl : f = 9 := Option.some.inj ((show Tryd.prog.funcNamed Rows.captionsParsesUptoRow.func = some 9 by kernel_rfl).symm.trans hf) |>.symm
      obtain rfl : fn = Tryd.f9 := (Option.some.inj (Tryd.func9.symm.trans hfn)).symm
      exact ⟨by kernel_rfl, fun j t ht => by
        rw [Tryd.params9] at ht
        have hm : t ∈ [9, 23, 3, 5, 47] := by simpa using Array.mem_of_getElem? ht
        have hall : ([9, 23, 3, 5, 47].all fun u => !Tryd.prog.wantsStandIn u) = true := by kernel_rfl
        exact (show Tryd.prog.wantsStandIn t = false by simpa using List.all_eq_true.1 hall t hm)⟩)
    (by kernel_rfl)
#print axioms captionsParsesUptoCard_holds
end Go.Proofs.YtckmebfgianeoaaDoor
