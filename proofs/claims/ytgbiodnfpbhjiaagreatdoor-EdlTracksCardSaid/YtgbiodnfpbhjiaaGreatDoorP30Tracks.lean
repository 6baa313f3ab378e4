/-
  EdlTracks: for every input the law returns true, and the input reads as it did, where the variables of strconv hold what the program's text lays; tied to the text.
  Conditions: the listed variables.
-/
import Derived.Test.YtgbiodnfpbhjiaaGreatDoorLawTracks
import Derived.Test.YtgbiodnfpbhjiaaGreatDoorLift
import Derived.Test.YtgbiodnfpbhjiaaGreatDoorOpenCap
import Derived.Test.YtgbiodnfpbhjiaaGreatDoorCards
import Derived.Test.YtgbiodnfpbhjiaaGreatDoorTie
import Derived.ChangeMaps5
import Derived.OpenShut
import Derived.Stop.Joined
import Derived.SevenTiedAt
namespace Go.Proofs.YtgbiodnfpbhjiaaGreatDoor
open Go.ChangeShapes Go.WideShapes Go.ChangeAt Go.RowKit Go.Joins
set_option linter.unusedVariables false

set_option maxRecDepth 100000 in
theorem edlTracks_lifted (os : Os) (started : os.Started) (H : Type) (enc : TypeId × Value → H) :
    ReturnsInHanded {} Tryz.checked os 4 .any (fun w args => (Rows.edlTracksSpec.pre enc Tryz.prog Tryz.f4 [] false w args ∧ laidMetH Tryz.prog laid30 w) ∧ sizedMet enc Tryz.prog Tryz.f4 (OpenSpec.ofChange Rows.edlTracksSpec) false w args) (Rows.edlTracksSpec.post enc Tryz.prog Tryz.f4 false true false false) := by
  refine returnsInHanded_of_change_and (C := Tryz.checked) (X := fun w _ => laidMetH Tryz.prog laid30 w) (fun _ _ _ hh h => h.of_heap hh) own started (by kernel_rfl) Tryz.func4
    (ChangeSpec.witness_shaped (enc := enc) (C := Tryz.checked) (os := os) (X := fun w _ => laidMetH Tryz.prog laid30 w) false (World.doorLaid Tryz.prog 72 os) #[.agg #[.string ByteArray.empty, .int .i64 0, .bool false, .slice none 0 0], .slice none 0 0] 8 rfl (World.shaped_of_RefB (by kernel_rfl) (by kernel_rfl)) (by kernel_rfl) (by kernel_rfl) (by kernel_rfl) (laid30_met os _)) ?_
  intro W base args ds gs before hval0 hW _ hWt hL _
  have hval : ∀ (j : Nat) t v, Tryz.f4.params[j]? = some t → args[j]? = some v → Value.okWide Tryz.prog W .any base t v := hval0
  have hW' := hW
  obtain ⟨p, q, hA0, hV, _, _, _⟩ := hW
  have hA : DataW.TrodAll enc Tryz.prog W 0 (fun _ => true) true Tryz.f4.params.toList args.toList ds p := hA0
  rw [Tryz.params4] at hA hval hWt
  obtain ⟨v0, vs0, d0, ds0, p0, q0, hargs, rfl, rfl, h0, r0⟩ := trodAll_cons hA
  obtain ⟨v1, vs1, d1, ds1, p1, q1, rfl, rfl, rfl, h1, r1⟩ := trodAll_cons r0
  obtain ⟨rfl, rfl, rfl⟩ := trodAll_nil r1
  obtain rfl : args = #[v0, v1] := by cases args; simp_all
  obtain ⟨rfl, rfl⟩ := trodVars_none hV
  obtain ⟨vs0, ys0, m0, rfl, lv0, ly0, rfl, rfl, hy0⟩ := open_fields 4 rfl Tryz.underlying24 (by kernel_rfl) (by kernel_rfl) (hval 0 24 v0 rfl rfl) h0
  obtain ⟨c0_0, c0_1, c0_2, c0_3, rfl⟩ := list_of4 lv0
  obtain ⟨y0_0, y0_1, y0_2, y0_3, rfl⟩ := list_of4 ly0
  have q0_0 := hy0 0 _ _ _ rfl rfl rfl
  have q0_1 := hy0 1 _ _ _ rfl rfl rfl
  have q0_2 := hy0 2 _ _ _ rfl rfl rfl
  have q0_3 := hy0 3 _ _ _ rfl rfl rfl
  obtain ⟨a0_0, e0_0, d0_0, _⟩ := DataW.trod_string Tryz.underlying9 q0_0
  obtain ⟨a0_1, e0_1, d0_1, w0_1⟩ := DataW.trod_int Tryz.underlying3 q0_1
  obtain ⟨a0_2, e0_2, d0_2⟩ := DataW.trod_bool Tryz.underlying4 q0_2
  simp at e0_0 e0_1 e0_2; subst e0_0 e0_1 e0_2
  have hlw0 := weight_at hWt 0 rfl rfl
  have hlt0 : a0_0.size ≤ 140737488355328 := by
    have := hlw0 a0_0.size (by simp only [DataW.weights]; exact DataW.weights_mem_each (j := 0) rfl rfl _ (by simp [d0_0, DataW.weights]))
    unfold reachBytes at this; omega
  obtain ⟨es0, hE0, hr0, hn0⟩ := evs_open q0_3 (fun q hq => hlw0 q (by simp only [DataW.weights]; exact DataW.weights_mem_each (j := 3) rfl rfl q hq))
  obtain ⟨f1, h1x⟩ := h1
  obtain ⟨sa1, sl1, sc1, rfl⟩ := okWide_slice Tryz.underlying25 (hval 1 25 v1 rfl rfl)
  obtain ⟨a1, cap1, xs1, e1, hc1⟩ := ints_open h1x (weight_at hWt 1 rfl rfl)
  obtain ⟨rfl, rfl, rfl⟩ : sa1 = a1 ∧ sl1 = xs1.length ∧ sc1 = cap1 := by simpa using e1
  have hO := pow_of_laid hL
  refine (lawTracks_walk _ _ xs1 ⟨a0_0, a0_1, a0_2, es0⟩ c0_3 W ⟨hE0, hlt0, hr0, hn0⟩ (evs_cap q0_3) hc1 hO).mono fun e W' ⟨he, hg⟩ => ?_
  subst he
  exact ⟨_, rfl, law_post 4 laidOut (by kernel_rfl) rfl Tryz.underlying4 rfl rfl rfl rfl hW' hg⟩

theorem edlTracks_holds : Rows.EdlTracksSaid :=
  OpenClaim.holds_of_wide 4 Tryz.f4 rfl rfl rfl rfl rfl rfl rfl ⟨rfl, rfl, rfl, rfl, rfl⟩ rfl rfl rfl rfl rfl (by kernel_rfl) Tryz.func4 (by kernel_rfl)
    (of_decide_eq_true (by kernel_rfl)) (by unfold Func.isWrapper; first | (rw [if_pos (by decide +kernel)]; kernel_rfl) | (rw [if_neg (by decide +kernel)]; exact ⟨rfl, rfl⟩))
    (fun os started H enc _ => edlTracks_lifted os started H enc)
#print axioms edlTracks_holds

theorem edlTracksCard_holds : Rows.EdlTracksCardSaid :=
  Claim7.holds_tied_plain_at .later [] Rows.edlTracksCard.laidKinds true Rows.edlTracksCard.stood.harness Rows.edlTracksCard.stood.looks
    edlTracks_holds (fun _ h => by cases h) (by kernel_rfl) (fun _ h => by cases h) edlTracks_row_tie rfl ⟨rfl, rfl⟩ (by kernel_rfl) rfl
    (fun f fn hf hfn => by
      obtain rfl : f = 4 := Option.some.inj ((show Tryz.prog.funcNamed Rows.edlTracksRow.func = some 4 by kernel_rfl).symm.trans hf) |>.symm
      obtain rfl : fn = Tryz.f4 := (Option.some.inj (Tryz.func4.symm.trans hfn)).symm
      exact ⟨by kernel_rfl, fun j t ht => by
        rw [Tryz.params4] at ht
        have hm : t ∈ [24, 25] := by simpa using Array.mem_of_getElem? ht
        have hall : ([24, 25].all fun u => !Tryz.prog.wantsStandIn u) = true := by kernel_rfl
        exact (show Tryz.prog.wantsStandIn t = false by simpa using List.all_eq_true.1 hall t hm)⟩)
    (by kernel_rfl)
#print axioms edlTracksCard_holds
end Go.Proofs.YtgbiodnfpbhjiaaGreatDoor
