/-
  EdlShows: for every input the law returns true, and the input reads as it did, where the variables of strconv hold what the program's text lays; tied to the text.
  Conditions: the listed variables.
-/
import Derived.Test.YtnginfangeikpaaGreatDoorSiL
import Derived.Test.YtnginfangeikpaaGreatDoorLift
import Derived.Test.YtnginfangeikpaaGreatDoorCards
import Derived.Test.YtnginfangeikpaaGreatDoorTie
import Derived.ChangeMaps5
import Derived.OpenShut
import Derived.Stop.Joined
import Derived.SevenTiedAt
namespace Go.Proofs.YtnginfangeikpaaGreatDoor
open Go.ChangeShapes Go.WideShapes Go.ChangeAt Go.RowKit Go.Joins
set_option linter.unusedVariables false
theorem lawShows_walk (a:Option Addr) (cap:Nat) (xs:List Int) (w:World) (hA:TapeArg w a cap xs) (hT:Pow w) :
  Calls Tryz.prog 3 #[.slice a xs.length cap] w fun e w'=>e=.returned (.bool true)∧Gr w w':=by
 refine lawShows_core 8 rfl a cap xs w (Lib.hid fun w0 hg0=>?_) (Lib.hid fun w' hg=>eawake_any w' (Pow.gr hg hT))
 refine (emade_any a cap xs w0 (hA.gr hg0)).mono ?_
 rintro e w' ⟨l,v,base,rfl,hg,hR,hown,_,hMd⟩
 obtain⟨p,c,rfl,_⟩:=hR.evs.shape
 refine⟨l,p,c,rfl,hg,hR,?_,hMd⟩
 rcases hown.2 with ⟨e1,e2⟩ | ⟨g,cp,cur,e1,_,_,h3,_⟩
 ·injection e1 with h1 h2 h3
  omega
 ·injection e1 with h1 h2 h4
  omega
set_option maxRecDepth 100000 in
theorem edlShows_lifted (os:Os) (started:os.Started) (H:Type) (enc:TypeId × Value→H) :
  ReturnsInHanded {} Tryz.checked os 3 .any (fun w args=>(Rows.edlShowsSpec.pre enc Tryz.prog Tryz.f3 [] false w args∧laidMetH Tryz.prog laid30z w)∧sizedMet enc Tryz.prog Tryz.f3 (OpenSpec.ofChange Rows.edlShowsSpec) false w args) (Rows.edlShowsSpec.post enc Tryz.prog Tryz.f3 false true false false):=by
 refine returnsInHanded_of_change_and (C:=Tryz.checked) (X:=fun w _=>laidMetH Tryz.prog laid30z w) (fun _ _ _ hh h=>h.of_heap hh) own started (by kernel_rfl) Tryz.func3
  (ChangeSpec.witness_shaped (enc:=enc) (C:=Tryz.checked) (os:=os) (X:=fun w _=>laidMetH Tryz.prog laid30z w) false (World.doorLaid Tryz.prog 24 os) #[.slice none 0 0] 8 rfl (World.shaped_of_RefB (by kernel_rfl) (by kernel_rfl)) (by kernel_rfl) (by kernel_rfl) (by kernel_rfl) (laid30z_met os _)) ?_
 intro W base args ds gs before hval0 hW _ hWt hL _
 have hval:∀ (j:Nat) t v,Tryz.f3.params[j]?=some t→args[j]?=some v→Value.okWide Tryz.prog W .any base t v:=hval0
 have hW':=hW
 obtain⟨p,q,hA0,hV,_,_,_⟩:=hW
 have hA:DataW.TrodAll enc Tryz.prog W 0 (fun _=>true) true Tryz.f3.params.toList args.toList ds p:=hA0
 rw [Tryz.params3] at hA hval hWt
 obtain⟨v0,vs0,d0,ds0,p0,q0,hargs,rfl,rfl,h0,r0⟩:=trodAll_cons hA
 obtain⟨rfl,rfl,rfl⟩:=trodAll_nil r0
 obtain rfl:args=#[v0]:=by cases args;simp_all
 obtain⟨rfl,rfl⟩:=trodVars_none hV
 obtain⟨f0,h0x⟩:=h0
 obtain⟨sa0,sl0,sc0,rfl⟩:=okWide_slice Tryz.underlying22 (hval 0 22 v0 rfl rfl)
 obtain⟨a0,cap0,xs0,e0,hc0⟩:=ints_open h0x (weight_at hWt 0 rfl rfl)
 obtain⟨rfl,rfl,rfl⟩:sa0=a0∧sl0=xs0.length∧sc0=cap0:=by simpa using e0
 have hO:=pow_of_laidz hL
 refine (lawShows_walk _ _ xs0 W hc0 hO).mono fun e W' ⟨he,hg⟩=>?_
 subst he
 exact⟨_,rfl,law_post 4 laidOut (by kernel_rfl) rfl Tryz.underlying4 rfl rfl rfl rfl hW' hg⟩
theorem edlShows_holds:Rows.EdlShowsSaid:=
 OpenClaim.holds_of_wide 3 Tryz.f3 rfl rfl rfl rfl rfl rfl rfl ⟨rfl,rfl,rfl,rfl,rfl⟩ rfl rfl rfl rfl rfl (by kernel_rfl) Tryz.func3 (by kernel_rfl)
  (of_decide_eq_true (by kernel_rfl)) (by unfold Func.isWrapper;first | (rw [if_pos (by decide +kernel)];kernel_rfl) | (rw [if_neg (by decide +kernel)];exact⟨rfl,rfl⟩))
  (fun os started H enc _=>edlShows_lifted os started H enc)
#print axioms edlShows_holds
theorem edlShowsCard_holds:Rows.EdlShowsCardSaid:=
 Claim7.holds_tied_plain_at .later [] Rows.edlShowsCard.laidKinds true Rows.edlShowsCard.stood.harness Rows.edlShowsCard.stood.looks
  edlShows_holds (fun _ h=>by cases h) (by kernel_rfl) (fun _ h=>by cases h) edlShows_row_tie rfl ⟨rfl,rfl⟩ (by kernel_rfl) rfl
  (fun f fn hf hfn=>by
   obtain rfl:f=3:=Option.some.inj ((show Tryz.prog.funcNamed Rows.edlShowsRow.func=some 3 by kernel_rfl).symm.trans hf) |>.symm
   obtain rfl:fn=Tryz.f3:=(Option.some.inj (Tryz.func3.symm.trans hfn)).symm
   exact⟨by kernel_rfl,fun j t ht=>by
    rw [Tryz.params3] at ht
    have hm:t∈[22]:=by simpa using Array.mem_of_getElem? ht
    have hall:([22].all fun u=>!Tryz.prog.wantsStandIn u)=true:=by kernel_rfl
    exact (show Tryz.prog.wantsStandIn t=false by simpa using List.all_eq_true.1 hall t hm)⟩)
  (by kernel_rfl)
#print axioms edlShowsCard_holds
end Go.Proofs.YtnginfangeikpaaGreatDoor
