/-
  EdlLists: for every input the law returns true, and the input reads as it did, where the variables of strconv hold what the program's text lays; tied to the text.
  Conditions: the listed variables.
-/
import Derived.Test.YtgbiodnfpbhjiaaGreatDoorLawListz
import Derived.Test.YtgbiodnfpbhjiaaGreatDoorLift
import Derived.Test.YtgbiodnfpbhjiaaGreatDoorCards
import Derived.Test.YtgbiodnfpbhjiaaGreatDoorTie
import Derived.ChangeMaps5
import Derived.OpenShut
import Derived.Stop.Joined
import Derived.SevenTiedAt
namespace Go.Proofs.YtgbiodnfpbhjiaaGreatDoor
open Go.ChangeShapes Go.WideShapes Go.ChangeAt Go.RowKit Go.Joins
set_option linter.unusedVariables false
set_option maxHeartbeats 4000000
set_option maxRecDepth 100000 in
theorem edlLists_lifted (os:Os) (started:os.Started) (H:Type) (enc:TypeId × Value→H) :
  ReturnsInHanded {} Tryz.checked os 5 .any (fun w args=>(Rows.edlListsSpec.pre enc Tryz.prog Tryz.f5 [] false w args∧laidMetH Tryz.prog laid30 w)∧sizedMet enc Tryz.prog Tryz.f5 (OpenSpec.ofChange Rows.edlListsSpec) false w args) (Rows.edlListsSpec.post enc Tryz.prog Tryz.f5 false true false false):=by
 refine returnsInHanded_of_change_and (C:=Tryz.checked) (X:=fun w _=>laidMetH Tryz.prog laid30 w) (fun _ _ _ hh h=>h.of_heap hh) own started (by as_aux_lemma=>kernel_rfl) Tryz.func5
  (ChangeSpec.witness_shaped (enc:=enc) (C:=Tryz.checked) (os:=os) (X:=fun w _=>laidMetH Tryz.prog laid30 w) false (World.doorLaid Tryz.prog 72 os) #[.slice none 0 0,.slice none 0 0,.string ByteArray.empty,.int .i64 0,.bool false] 8 rfl (World.shaped_of_RefB (by as_aux_lemma=>kernel_rfl) (by as_aux_lemma=>kernel_rfl)) (by as_aux_lemma=>kernel_rfl) (by as_aux_lemma=>kernel_rfl) (by as_aux_lemma=>kernel_rfl) (laid30_met os _)) ?_
 intro W base args ds gs before hval0 hW _ hWt hL _
 have hval:∀ (j:Nat) t v,Tryz.f5.params[j]?=some t→args[j]?=some v→Value.okWide Tryz.prog W .any base t v:=hval0
 have hW':=hW
 obtain⟨p,q,hA0,hV,_,_,_⟩:=hW
 have hA:DataW.TrodAll enc Tryz.prog W 0 (fun _=>true) true Tryz.f5.params.toList args.toList ds p:=hA0
 rw [Tryz.params5] at hA hval hWt
 obtain⟨v0,vs0,d0,ds0,p0,q0,hargs,rfl,rfl,h0,r0⟩:=trodAll_cons hA
 obtain⟨v1,vs1,d1,ds1,p1,q1,rfl,rfl,rfl,h1,r1⟩:=trodAll_cons r0
 obtain⟨v2,vs2,d2,ds2,p2,q2,rfl,rfl,rfl,h2,r2⟩:=trodAll_cons r1
 obtain⟨v3,vs3,d3,ds3,p3,q3,rfl,rfl,rfl,h3,r3⟩:=trodAll_cons r2
 obtain⟨v4,vs4,d4,ds4,p4,q4,rfl,rfl,rfl,h4,r4⟩:=trodAll_cons r3
 obtain⟨rfl,rfl,rfl⟩:=trodAll_nil r4
 obtain rfl:args=#[v0,v1,v2,v3,v4]:=by cases args;simp_all
 obtain⟨rfl,rfl⟩:=trodVars_none hV
 obtain⟨f0,h0x⟩:=h0
 obtain⟨sa0,sl0,sc0,rfl⟩:=okWide_slice Tryz.underlying35 (hval 0 35 v0 rfl rfl)
 obtain⟨tcs0,hT0,hK0,hL0,hC0⟩:=track_open h0x (weight_at hWt 0 rfl rfl)
 obtain⟨f1,h1x⟩:=h1
 obtain⟨sa1,sl1,sc1,rfl⟩:=okWide_slice Tryz.underlying25 (hval 1 25 v1 rfl rfl)
 obtain⟨a1,cap1,xs1,e1,hc1⟩:=ints_open h1x (weight_at hWt 1 rfl rfl)
 obtain⟨rfl,rfl,rfl⟩:sa1=a1∧sl1=xs1.length∧sc1=cap1:=by simpa using e1
 obtain⟨a2,rfl,rfl,rfl,w2⟩:=ChangeMaps.open_string Tryz.underlying9 (hval 2 9 v2 rfl rfl) h2
 have u2:a2.size≤140737488355328:=by
  have hh:=weight_at hWt 2 rfl rfl a2.size (by simp [DataW.weights])
  unfold reachBytes at hh;omega
 obtain⟨a3,rfl,rfl,rfl,w3⟩:=open_int Tryz.underlying3 (hval 3 3 v3 rfl rfl) h3
 obtain⟨a4,rfl,rfl,rfl⟩:=open_bool Tryz.underlying4 (hval 4 4 v4 rfl rfl) h4
 have hO:=pow_of_laid hL
 refine (lawLists_walk _ _ xs1 tcs0 _ a2 a3 a4 W hT0 hK0 hL0 hC0 u2 hc1 hO).mono fun e W' ⟨he,hg⟩=>?_
 subst he
 exact⟨_,rfl,law_post 4 laidOut (by as_aux_lemma=>kernel_rfl) rfl Tryz.underlying4 rfl rfl rfl rfl hW' hg⟩
theorem edlLists_holds:Rows.EdlListsSaid:=
 OpenClaim.holds_of_wide 5 Tryz.f5 rfl rfl rfl rfl rfl rfl rfl ⟨rfl,rfl,rfl,rfl,rfl⟩ rfl rfl rfl rfl rfl (by as_aux_lemma=>kernel_rfl) Tryz.func5 (by as_aux_lemma=>kernel_rfl)
  (of_decide_eq_true (by as_aux_lemma=>kernel_rfl)) (by unfold Func.isWrapper;first | (rw [if_pos (by decide +kernel)];kernel_rfl) | (rw [if_neg (by decide +kernel)];exact⟨rfl,rfl⟩))
  (fun os started H enc _=>edlLists_lifted os started H enc)
#print axioms edlLists_holds
theorem edlListsCard_holds:Rows.EdlListsCardSaid:=
 Claim7.holds_tied_plain_at .later [] Rows.edlListsCard.laidKinds true Rows.edlListsCard.stood.harness Rows.edlListsCard.stood.looks
  edlLists_holds (fun _ h=>by cases h) (by as_aux_lemma=>kernel_rfl) (fun _ h=>by cases h) edlLists_row_tie rfl ⟨rfl,rfl⟩ (by as_aux_lemma=>kernel_rfl) rfl
  (fun f fn hf hfn=>by
   obtain rfl:f=5:=Option.some.inj ((show Tryz.prog.funcNamed Rows.edlListsRow.func=some 5 by kernel_rfl).symm.trans hf) |>.symm
   obtain rfl:fn=Tryz.f5:=(Option.some.inj (Tryz.func5.symm.trans hfn)).symm
   exact⟨by kernel_rfl,fun j t ht=>by
    rw [Tryz.params5] at ht
    have hm:t∈[35,25,9,3,4]:=by simpa using Array.mem_of_getElem? ht
    have hall:([35,25,9,3,4].all fun u=>!Tryz.prog.wantsStandIn u)=true:=by kernel_rfl
    exact (show Tryz.prog.wantsStandIn t=false by simpa using List.all_eq_true.1 hall t hm)⟩)
  (by as_aux_lemma=>kernel_rfl)
#print axioms edlListsCard_holds
end Go.Proofs.YtgbiodnfpbhjiaaGreatDoor
