/-
  EdlParses: for every input of at most 2^20 letters and values the law returns true, and the input reads as it did, where the variables of strconv hold what the program's text lays; tied to the text.
  Conditions: the listed variables; the bulk of the arguments.
-/
import Derived.Test.YtgbiodnfpbhjiaaGreatDoorOpenCap
import Derived.Test.YtgbiodnfpbhjiaaGreatDoorCards
import Derived.Test.YtgbiodnfpbhjiaaGreatDoorTie
import Derived.ChangeMaps5
import Derived.OpenShut
import Derived.Stop.Joined
import Derived.SevenTiedAt
import Derived.Deep.DeepHandedRow
import Derived.Deep.DeepWitnessRowRef
namespace Go.Proofs.YtgbiodnfpbhjiaaGreatDoor
open Go.ChangeShapes Go.WideShapes Go.ChangeAt Go.RowKit Go.Joins
set_option linter.unusedVariables false
set_option maxHeartbeats 4000000
theorem str_weight {P:Program} {H:Type} {t:TypeId} {ts:List TypeId} {s:ByteArray} {rest:List (DataW H)} (h:(DataW.weightsEach P (t :: ts) (.lit (.string s.data.toList) :: rest)).all (·≤reachBytes)=true):True:=trivial
theorem u8_of_wf {x:Int} (h:(Lit.int .u8 x).wf=true):0≤x∧x≤255:=by
 simp [Lit.wf,IntKind.min,IntKind.max,IntKind.signed,IntKind.bits] at h
 exact⟨by omega,by omega⟩
set_option maxRecDepth 100000 in
theorem edlParsesUpto_lifted (os:Os) (started:os.Started) (H:Type) (enc:TypeId × Value→H) (F:Stop.Interp) :
  ReturnsInHanded {} Tryz.checked os 10 .any ((Rows.OpenSpec.upto Rows.edlParsesSpec).preRow enc Tryz.prog Tryz.f10 Rows.edlParsesUptoRow.domain false Rows.edlParsesUptoRow.laid) (((Rows.OpenSpec.upto Rows.edlParsesSpec).at F).post enc Tryz.prog Tryz.f10 false true false false):=by
 obtain⟨places,hx⟩:∃ places,DataW.whole enc Tryz.prog ((World.laidAll Tryz.prog os laid30e).forCall (fun _ _=>0) ⟨#[],#[.string ByteArray.empty,.slice none 0 0,.int .i64 0,.int .u8 0,.int .i64 0],[]⟩).memory Tryz.f10.params.toList Rows.edlParsesSpec.vars false (#[.string ByteArray.empty,.slice none 0 0,.int .i64 0,.int .u8 0,.int .i64 0]:Array Value).toList 8=some ([.lit (.string []),.nil,.lit (.int .i64 0),.lit (.int .u8 0),.lit (.int .i64 0)],[],places):=⟨[],by kernel_rfl⟩
 refine returnsInHanded_of_row (C:=Tryz.checked) (s:=Rows.OpenSpec.upto Rows.edlParsesSpec) own started (by as_aux_lemma=>kernel_rfl) Tryz.func10
  (witness_row_atRef (enc:=enc) (C:=Tryz.checked) false (World.laidAll Tryz.prog os laid30e) #[.string ByteArray.empty,.slice none 0 0,.int .i64 0,.int .u8 0,.int .i64 0] (World.laidAll_os _ _ _) (by as_aux_lemma=>kernel_rfl) (by as_aux_lemma=>kernel_rfl) (by as_aux_lemma=>kernel_rfl)
   (OpenSpec.preRow_of_cond 8 hx (by as_aux_lemma=>kernel_rfl) (fun k hk=>by cases hk;kernel_rfl) (by as_aux_lemma=>kernel_rfl) (laid30e_met os _))) ?_
 intro W base args ds gs before hval0 hW _ hcond hWt hL hSh _
 have hBk:=upto_bound (hcond _ rfl)
 have hval:∀ (j:Nat) t v,Tryz.f10.params[j]?=some t→args[j]?=some v→Value.okWide Tryz.prog W .any base t v:=hval0
 have hW':=hW
 obtain⟨p,q,hA0,hV,_,_,_⟩:=hW
 have hA:DataW.TrodAll enc Tryz.prog W 0 (fun _=>true) true Tryz.f10.params.toList args.toList ds p:=hA0
 rw [Tryz.params10] at hA hval hWt
 obtain⟨v0,vs0,d0,ds0,p0,q0,hargs,rfl,rfl,h0,r0⟩:=trodAll_cons hA
 obtain⟨v1,vs1,d1,ds1,p1,q1,rfl,rfl,rfl,h1,r1⟩:=trodAll_cons r0
 obtain⟨v2,vs2,d2,ds2,p2,q2,rfl,rfl,rfl,h2,r2⟩:=trodAll_cons r1
 obtain⟨v3,vs3,d3,ds3,p3,q3,rfl,rfl,rfl,h3,r3⟩:=trodAll_cons r2
 obtain⟨v4,vs4,d4,ds4,p4,q4,rfl,rfl,rfl,h4,r4⟩:=trodAll_cons r3
 obtain⟨rfl,rfl,rfl⟩:=trodAll_nil r4
 obtain rfl:args=#[v0,v1,v2,v3,v4]:=by cases args;simp_all
 obtain⟨rfl,rfl⟩:=trodVars_none hV
 obtain⟨a0,rfl,rfl,rfl,w0⟩:=ChangeMaps.open_string Tryz.underlying9 (hval 0 9 v0 rfl rfl) h0
 have u0:=str_weight hWt
 obtain⟨f1,h1x⟩:=h1
 obtain⟨sa1,sl1,sc1,rfl⟩:=okWide_slice Tryz.underlying25 (hval 1 25 v1 rfl rfl)
 obtain⟨a1,cap1,xs1,e1,hc1⟩:=ints_open h1x (weight_at hWt 1 rfl rfl)
 obtain⟨rfl,rfl,rfl⟩:sa1=a1∧sl1=xs1.length∧sc1=cap1:=by simpa using e1
 obtain⟨a2,rfl,rfl,rfl,w2⟩:=open_int Tryz.underlying3 (hval 2 3 v2 rfl rfl) h2
 obtain⟨a3,rfl,rfl,rfl,w3⟩:=open_int Tryz.underlying5 (hval 3 5 v3 rfl rfl) h3
 obtain⟨a4,rfl,rfl,rfl,w4⟩:=open_int Tryz.underlying3 (hval 4 3 v4 rfl rfl) h4
 have hO:=text_of_laid hL
 refine (lawEps_walk a0 _ _ xs1 a2 a3 a4 W (by have:=upto_str hBk;omega) hc1 (i64_of_wf w2) (u8_of_wf w3) hO (Mx.of_shaped hSh)).mono fun e W' ⟨he,hg⟩=>?_
 subst he
 exact⟨_,rfl,law_post 4 laidOut (by as_aux_lemma=>kernel_rfl) rfl Tryz.underlying4 rfl rfl rfl rfl hW' hg⟩
theorem edlParsesUpto_holds:Rows.EdlParsesUptoSaid:=
 OpenClaim.holds_of_cond 10 Tryz.f10 rfl rfl rfl rfl rfl rfl rfl ⟨rfl,rfl,rfl,rfl,rfl⟩ rfl rfl rfl rfl rfl (by as_aux_lemma=>kernel_rfl) Tryz.func10 (by as_aux_lemma=>kernel_rfl)
  (of_decide_eq_true (by as_aux_lemma=>kernel_rfl)) (by unfold Func.isWrapper;first | (rw [if_pos (by decide +kernel)];kernel_rfl) | (rw [if_neg (by decide +kernel)];exact⟨rfl,rfl⟩))
  (fun os started H enc _ F=>by rw [OpenClaim.pre_eq_preRow];exact edlParsesUpto_lifted os started H enc F)
#print axioms edlParsesUpto_holds
theorem edlParsesUptoCard_holds:Rows.EdlParsesUptoCardSaid:=
 Claim7.holds_tied_plain_at .later [] Rows.edlParsesUptoCard.laidKinds true Rows.edlParsesUptoCard.stood.harness Rows.edlParsesUptoCard.stood.looks
  edlParsesUpto_holds (fun _ h=>by cases h) (by as_aux_lemma=>kernel_rfl) (fun _ h=>by cases h) edlParsesUpto_row_tie rfl ⟨rfl,rfl⟩ (by as_aux_lemma=>kernel_rfl) rfl
  (fun f fn hf hfn=>by
   obtain rfl:f=10:=Option.some.inj ((show Tryz.prog.funcNamed Rows.edlParsesUptoRow.func=some 10 by kernel_rfl).symm.trans hf) |>.symm
   obtain rfl:fn=Tryz.f10:=(Option.some.inj (Tryz.func10.symm.trans hfn)).symm
   exact⟨by kernel_rfl,fun j t ht=>by
    rw [Tryz.params10] at ht
    have hm:t∈[9,25,3,5,3]:=by simpa using Array.mem_of_getElem? ht
    have hall:([9,25,3,5,3].all fun u=>!Tryz.prog.wantsStandIn u)=true:=by kernel_rfl
    exact (show Tryz.prog.wantsStandIn t=false by simpa using List.all_eq_true.1 hall t hm)⟩)
  (by as_aux_lemma=>kernel_rfl)
#print axioms edlParsesUptoCard_holds
end Go.Proofs.YtgbiodnfpbhjiaaGreatDoor
