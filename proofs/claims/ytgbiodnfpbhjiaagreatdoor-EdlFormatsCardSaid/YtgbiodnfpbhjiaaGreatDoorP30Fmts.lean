/-
  EdlFormats: for every input the law returns true, and the input reads as it did, where the variables of strconv hold what the program's text lays; tied to the text.
  Conditions: the listed variables.
-/
import Derived.Test.YtgbiodnfpbhjiaaGreatDoorDoor30e
import Derived.Test.YtgbiodnfpbhjiaaGreatDoorOpenCap
import Derived.Test.YtgbiodnfpbhjiaaGreatDoorCards
import Derived.Test.YtgbiodnfpbhjiaaGreatDoorTie
import Derived.ChangeMaps5
import Derived.OpenShut
import Derived.Stop.Joined
import Derived.SevenTiedAt
namespace Go.Proofs.YtgbiodnfpbhjiaaGreatDoor
open Go.ChangeShapes Go.WideShapes Go.ChangeAt Go.RowKit Go.Joins
set_option linter.unusedVariables false
set_option maxHeartbeats 4000000
set_option maxRecDepth 100000 in
theorem edlFormats_lifted (os:Os) (started:os.Started) (H:Type) (enc:TypeId × Value→H) :
  ReturnsInHanded {} Tryz.checked os 9 .any (fun w args=>(Rows.edlFormatsSpec.pre enc Tryz.prog Tryz.f9 [] false w args∧laidMetH Tryz.prog laid30e w)∧sizedMet enc Tryz.prog Tryz.f9 (OpenSpec.ofChange Rows.edlFormatsSpec) false w args) (Rows.edlFormatsSpec.post enc Tryz.prog Tryz.f9 false true false false):=by
 refine lift_sh (C:=Tryz.checked) (laid:=laid30e) own started (by as_aux_lemma=>kernel_rfl) Tryz.func9
  (ChangeSpec.witness_shaped (enc:=enc) (C:=Tryz.checked) (os:=os) (X:=fun w _=>laidMetH Tryz.prog laid30e w) false (World.laidAll Tryz.prog os laid30e) #[.agg #[.string ByteArray.empty,.int .i64 0,.bool false,.slice none 0 0],.slice none 0 0] 8 (World.laidAll_os _ _ _) (World.shaped_of_ZipB (by as_aux_lemma=>kernel_rfl) (by as_aux_lemma=>kernel_rfl)) (by as_aux_lemma=>kernel_rfl) (by as_aux_lemma=>kernel_rfl) (by as_aux_lemma=>kernel_rfl) (laid30e_met os _)) ?_
 intro W base args ds gs before hval0 hW _ hWt hL hSh _
 have hval:∀ (j:Nat) t v,Tryz.f9.params[j]?=some t→args[j]?=some v→Value.okWide Tryz.prog W .any base t v:=hval0
 have hW':=hW
 obtain⟨p,q,hA0,hV,_,_,_⟩:=hW
 have hA:DataW.TrodAll enc Tryz.prog W 0 (fun _=>true) true Tryz.f9.params.toList args.toList ds p:=hA0
 rw [Tryz.params9] at hA hval hWt
 obtain⟨v0,vs0,d0,ds0,p0,q0,hargs,rfl,rfl,h0,r0⟩:=trodAll_cons hA
 obtain⟨v1,vs1,d1,ds1,p1,q1,rfl,rfl,rfl,h1,r1⟩:=trodAll_cons r0
 obtain⟨rfl,rfl,rfl⟩:=trodAll_nil r1
 obtain rfl:args=#[v0,v1]:=by cases args;simp_all
 obtain⟨rfl,rfl⟩:=trodVars_none hV
 obtain⟨vs0,ys0,m0,rfl,lv0,ly0,rfl,rfl,hy0⟩:=open_fields 4 rfl Tryz.underlying24 (by as_aux_lemma=>kernel_rfl) (by as_aux_lemma=>kernel_rfl) (hval 0 24 v0 rfl rfl) h0
 obtain⟨c0_0,c0_1,c0_2,c0_3,rfl⟩:=list_of4 lv0
 obtain⟨y0_0,y0_1,y0_2,y0_3,rfl⟩:=list_of4 ly0
 have q0_0:=hy0 0 _ _ _ rfl rfl rfl
 have q0_1:=hy0 1 _ _ _ rfl rfl rfl
 have q0_2:=hy0 2 _ _ _ rfl rfl rfl
 have q0_3:=hy0 3 _ _ _ rfl rfl rfl
 obtain⟨a0_0,e0_0,d0_0,_⟩:=DataW.trod_string Tryz.underlying9 q0_0
 obtain⟨a0_1,e0_1,d0_1,w0_1⟩:=DataW.trod_int Tryz.underlying3 q0_1
 obtain⟨a0_2,e0_2,d0_2⟩:=DataW.trod_bool Tryz.underlying4 q0_2
 simp at e0_0 e0_1 e0_2;subst e0_0 e0_1 e0_2
 have hlw0:=weight_at hWt 0 rfl rfl
 have hlt0:a0_0.size≤140737488355328:=by
  have:=hlw0 a0_0.size (by simp only [DataW.weights];exact DataW.weights_mem_each (j:=0) rfl rfl _ (by simp [d0_0,DataW.weights]))
  unfold reachBytes at this;omega
 obtain⟨es0,hE0,hr0,hn0⟩:=evs_open q0_3 (fun q hq=>hlw0 q (by simp only [DataW.weights];exact DataW.weights_mem_each (j:=3) rfl rfl q hq))
 obtain⟨f1,h1x⟩:=h1
 obtain⟨sa1,sl1,sc1,rfl⟩:=okWide_slice Tryz.underlying25 (hval 1 25 v1 rfl rfl)
 obtain⟨a1,cap1,xs1,e1,hc1⟩:=ints_open h1x (weight_at hWt 1 rfl rfl)
 obtain⟨rfl,rfl,rfl⟩:sa1=a1∧sl1=xs1.length∧sc1=cap1:=by simpa using e1
 have hO:=text_of_laid hL
 refine (lawEfm_walk _ _ xs1 ⟨a0_0,a0_1,a0_2,es0⟩ c0_3 W ⟨hE0,hlt0,hr0,hn0⟩ (evs_cap q0_3) hc1 hO (Mx.of_shaped hSh)).mono fun e W' ⟨he,hg⟩=>?_
 subst he
 exact⟨_,rfl,law_post 4 laidOut (by as_aux_lemma=>kernel_rfl) rfl Tryz.underlying4 rfl rfl rfl rfl hW' hg⟩
theorem edlFormats_holds:Rows.EdlFormatsSaid:=
 OpenClaim.holds_of_wide 9 Tryz.f9 rfl rfl rfl rfl rfl rfl rfl ⟨rfl,rfl,rfl,rfl,rfl⟩ rfl rfl rfl rfl rfl (by as_aux_lemma=>kernel_rfl) Tryz.func9 (by as_aux_lemma=>kernel_rfl)
  (of_decide_eq_true (by as_aux_lemma=>kernel_rfl)) (by unfold Func.isWrapper;first | (rw [if_pos (by decide +kernel)];kernel_rfl) | (rw [if_neg (by decide +kernel)];exact⟨rfl,rfl⟩))
  (fun os started H enc _=>edlFormats_lifted os started H enc)
#print axioms edlFormats_holds
theorem edlFormatsCard_holds:Rows.EdlFormatsCardSaid:=
 Claim7.holds_tied_plain_at .later [] Rows.edlFormatsCard.laidKinds true Rows.edlFormatsCard.stood.harness Rows.edlFormatsCard.stood.looks
  edlFormats_holds (fun _ h=>by cases h) (by as_aux_lemma=>kernel_rfl) (fun _ h=>by cases h) edlFormats_row_tie rfl ⟨rfl,rfl⟩ (by as_aux_lemma=>kernel_rfl) rfl
  (fun f fn hf hfn=>by
   obtain rfl:f=9:=Option.some.inj ((show Tryz.prog.funcNamed Rows.edlFormatsRow.func=some 9 by kernel_rfl).symm.trans hf) |>.symm
   obtain rfl:fn=Tryz.f9:=(Option.some.inj (Tryz.func9.symm.trans hfn)).symm
   exact⟨by kernel_rfl,fun j t ht=>by
    rw [Tryz.params9] at ht
    have hm:t∈[24,25]:=by simpa using Array.mem_of_getElem? ht
    have hall:([24,25].all fun u=>!Tryz.prog.wantsStandIn u)=true:=by kernel_rfl
    exact (show Tryz.prog.wantsStandIn t=false by simpa using List.all_eq_true.1 hall t hm)⟩)
  (by as_aux_lemma=>kernel_rfl)
#print axioms edlFormatsCard_holds
end Go.Proofs.YtgbiodnfpbhjiaaGreatDoor
