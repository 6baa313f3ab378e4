/-
  Contract of catalogueOf of package timeline at the law's project.
  Conditions: the project lies in memory.
-/
import Derived.Test.YtnginfangeikpaaGreatDoorShT
import Derived.Test.YtnginfangeikpaaGreatDoorWalkTv
import Derived.RangeFuncNested
import Derived.RangeFuncBound
import Derived.RangeFuncCalls
import Derived.RangeFuncLeaves
import Derived.RangeFuncBox
import Derived.Shelf.Abstract
import Derived.OwnWalkIn
import Derived.TacticsInMore
import Derived.LoopNIn
import Derived.LoopIn
namespace Go.Proofs.YtnginfangeikpaaGreatDoor
open Go.RowKit Go.Lib
set_option linter.unusedSimpArgs false
set_option linter.unusedVariables false
def catD (mls:Nat→List Value):Nat→DataW Value
 | 0=>.map []
 | n+1=>(catD mls n).put (Lit.string (nmK n).data.toList) (.held (.agg (mls n).toArray))
def catS (TB:Nat):DataW Value:=(DataW.map []:DataW Value).put (Lit.string [115]) (.held (.agg (seqC TB).toArray))
set_option maxRecDepth 20000 in
set_option maxHeartbeats 8000000 in
theorem cat_core (k:Nat) (hk:141=k) (MB mc SB TB:Nat) (mls:Nat→List Value) (tv:Value) (w:World) (hP0:PrjR w MB mls SB TB tv) :
  Calls Tryz.prog 69 #[.agg (prjV MB mc SB).toArray] w fun e w'=>∃ (b1 b2:Nat),e=.returned (.agg #[.map (some b1),.map (some b2)])∧Gr w w'∧MapO w' b1 3 (catD mls 3)∧MapO w' b2 1 (catS TB):=by
 have hmm:=@run_makeMap Tryz.prog
 have aE:∀ w,(isAgg 70).run Tryz.prog w=.ok true w:=Tryz.isAgg70
 have zE:∀ w,(Go.sizeOf 70).run Tryz.prog w=.ok k w:=fun w=>by rw [← hk];exact Tryz.sizeOf70 w
 have hk0:¬ k=0:=by omega
 replace hk:=Lib.hid hk
 obtain⟨k9,hk9⟩:∃ k9,9=k9:=⟨_,rfl⟩
 have aS:∀ w,(isAgg 73).run Tryz.prog w=.ok true w:=Tryz.isAgg73
 have zS:∀ w,(Go.sizeOf 73).run Tryz.prog w=.ok k9 w:=fun w=>by rw [← hk9];exact Tryz.sizeOf73 w
 replace hk9:=Lib.hid hk9
 have s1:(w.alloc (.cells (prjV MB mc SB).toArray 35)).heap.size=w.heap.size+1:=by simp
 have s2:((w.alloc (.cells (prjV MB mc SB).toArray 35)).alloc (.cells #[.map none,.map none] 140)).heap.size=w.heap.size+1+1:=by simp
 have s3:(((w.alloc (.cells (prjV MB mc SB).toArray 35)).alloc (.cells #[.map none,.map none] 140)).alloc (.map #[] 0)).heap.size=w.heap.size+1+1+1:=by simp
 have s4:((((w.alloc (.cells (prjV MB mc SB).toArray 35)).alloc (.cells #[.map none,.map none] 140)).alloc (.map #[] 0)).alloc (.map #[] 0)).heap.size=w.heap.size+1+1+1+1:=by simp
 have g5:Gr ((((w.alloc (.cells (prjV MB mc SB).toArray 35)).alloc (.cells #[.map none,.map none] 140)).alloc (.map #[] 0)).alloc (.map #[] 0)) (((((w.alloc (.cells (prjV MB mc SB).toArray 35)).alloc (.cells #[.map none,.map none] 140)).alloc (.map #[] 0)).alloc (.map #[] 0)).alloc (.cells #[.map (some (w.heap.size+1+1)),.map (some (w.heap.size+1+1+1))] 140)):=(Gr.refl _).alloc _
 have g4:=((Gr.refl (((w.alloc (.cells (prjV MB mc SB).toArray 35)).alloc (.cells #[.map none,.map none] 140)).alloc (.map #[] 0))).alloc (.map #[] 0)).trans g5
 have g3:=((Gr.refl ((w.alloc (.cells (prjV MB mc SB).toArray 35)).alloc (.cells #[.map none,.map none] 140))).alloc (.map #[] 0)).trans g4
 have g2:=((Gr.refl (w.alloc (.cells (prjV MB mc SB).toArray 35))).alloc (.cells #[.map none,.map none] 140)).trans g3
 have g1:=((Gr.refl w).alloc (.cells (prjV MB mc SB).toArray 35)).trans g2
 have hP:=(Blk.new w (prjV MB mc SB) 35).gr g2
 have hR:=(Blk.new (w.alloc (.cells (prjV MB mc SB).toArray 35)) [.map none,.map none] 140).gr g3
 have hM1:=(MapO.new ((w.alloc (.cells (prjV MB mc SB).toArray 35)).alloc (.cells #[.map none,.map none] 140))).gr g4
 have hM2:=(MapO.new (((w.alloc (.cells (prjV MB mc SB).toArray 35)).alloc (.cells #[.map none,.map none] 140)).alloc (.map #[] 0))).gr g5
 have hC:=Blk.new ((((w.alloc (.cells (prjV MB mc SB).toArray 35)).alloc (.cells #[.map none,.map none] 140)).alloc (.map #[] 0)).alloc (.map #[] 0)) [.map (some (w.heap.size+1+1)),.map (some (w.heap.size+1+1+1))] 140
 have hB:=hP0.gr g1
 rw [s1] at hR
 rw [s2] at hM1
 rw [s3] at hM2
 rw [s4] at hC
 clear s1 s2 s3 s4 g5 g4 g3 g2
 have hMB:=hP0.lt
 unfold prjV at *
 go_enter Tryz.func69,Tryz.ntmps69
 go_upto_region 2 with fail
 generalize (((((w.alloc (.cells #[.slice (some ⟨MB,0,none⟩) 3 mc,.slice (some ⟨SB,0,none⟩) 1 1] 35)).alloc (.cells #[.map none,.map none] 140)).alloc (.map #[] 0)).alloc (.map #[] 0)).alloc (.cells #[.map (some (w.heap.size+1+1)),.map (some (w.heap.size+1+1+1))] 140))=V at *
 obtain⟨PB,hPB⟩:∃ PB,w.heap.size=PB:=⟨_,rfl⟩
 have hMBP:MB<PB:=by rw [← hPB];exact hMB
 rw [hPB] at hP hR hM1 hM2 hC hMB ⊢
 replace hPB:=Lib.hid hPB
 have hmed:=Lib.hid hP0.med
 have p0:=hP.lt
 have p1:=(hP.cel.2 0 _ rfl).1
 go_wp2
 go_loopw [14] (fun v wr=>∃ jj:Nat,jj≤3∧v=.int .i64 jj∧Gr w wr∧Blk wr PB 35 [.slice (some ⟨MB,0,none⟩) 3 mc,.slice (some ⟨SB,0,none⟩) 1 1]∧Blk wr (PB+1) 140 [.map none,.map none]∧Blk wr (PB+1+1+1+1) 140 [.map (some (PB+1+1)),.map (some (PB+1+1+1))]∧MapO wr (PB+1+1+1) 0 (.map [])∧MapO wr (PB+1+1) jj (catD mls jj)) (fun v _=>3 - (RowKit.intOf v).toNat)
 case atStart=>exact⟨0,by omega,rfl,g1,hP,hR,hC,hM2,hM1⟩
 case round=>
  obtain⟨jj,hjj,rfl,hg,hPr,hRr,hCr,hM2r,hM1r⟩:=hrel
  clear g1 hP hR hM1 hM2 hC hB p0 p1
  by_cases c1:jj<3
  ·have q1:decide ((jj:Int)<3)=true:=decide_eq_true (by omega)
   have hPrj:=hP0.gr hg
   have hcell:=hPrj.cel jj c1
   have hm:=hmed.out jj c1
   have hns:=nmK_size jj
   have hcd:catD mls (jj+1)=(catD mls jj).put (Lit.string (nmK jj).data.toList) (.held (.agg (mls jj).toArray)):=rfl
   generalize mls jj=ml at *
   have hlk:ml.length=k:=hm.n.trans hk.out
   have la:Sem.run Tryz.prog (loadCellsFrom ⟨MB,jj * k,none⟩ 0 k #[]) wr=.ok ml.toArray wr:=by rw [show jj * k=jj * 141 by rw [← hk.out]];exact ld_row hlk hcell
   have st:=st_fresh (P:=Tryz.prog) wr 70 Tryz.zeroCells70 ml (by rw [hm.n];exact infoMed1) (by rw [hm.n];kernel_rfl) hm.one
   have hbx:=Blk.new wr ml 70
   have hgx:Gr wr (wr.alloc (.cells ml.toArray 70)):=(Gr.refl wr).alloc _
   have hbr:=hPrj.lt
   have y:=hbx.lt
   have y0:=(hbx.cel.2 0 _ hm.c0).1
   have lb:=ldB hlk hbx
   have hC2:=hCr.gr hgx
   have z:=hC2.lt
   have z0:=(hC2.cel.2 0 _ rfl).1
   have hM1x:=hM1r.gr hgx
   clear hPrj hcell hM1r
   go_wp2_with (at_mapUpdate;refine wpList_mapUpdate_own _ rfl _ _ _ 137 rfl 9 70 keyed_str Tryz.underlying137 heldR (PB+1+1) jj (catD mls jj) rfl hM1x (by unfold maxLen;omega) (.string (nmK jj)) (.agg ml.toArray) (Lit.string (nmK jj).data.toList) rfl rfl (MapO.key (nmK jj) (by unfold maxLen;omega)) (.held (.agg ml.toArray)) [] rfl ?_;intro w9 hown9 hgrow9)
   have hgr9:Gr w w9:=(hg.trans hgx).grown hgrow9 (fun k hk=>by have e:=hPB.out;injection hk with hk;omega)
   have hne:∀ b,b≠PB+1+1→(some (PB+1+1):Option Nat)≠some b:=fun b hb e=>hb (by injection e with e;exact e.symm)
   rw [← hcd] at hown9
   exact⟨⟨jj+1,by omega,by go_num,hgr9,(hPr.gr hgx).grown hgrow9 (hne _ (by omega)),(hRr.gr hgx).grown hgrow9 (hne _ (by omega)),hC2.grown hgrow9 (hne _ (by omega)),(hM2r.gr hgx).grown hgrow9 (hne _ (by omega)),hown9⟩,by simp [RowKit.intOf];omega⟩
  ·have q1:decide ((jj:Int)<3)=false:=decide_eq_false (by omega)
   obtain rfl:jj=3:=by omega
   clear q1
   have e3:((3:Nat):Int)=3:=rfl
   rw [e3]
   clear e3
   have p0:=hPr.lt
   have p1:=(hPr.cel.2 1 _ rfl).1
   go_wp2
   go_loopw [27] (fun v wx=>(v=.int .i64 0∧wr=wx)∨(v=.int .i64 1∧Gr w wx∧Blk wx (PB+1) 140 [.map none,.map none]∧Blk wx (PB+1+1+1+1) 140 [.map (some (PB+1+1)),.map (some (PB+1+1+1))]∧MapO wx (PB+1+1) 3 (catD mls 3)∧MapO wx (PB+1+1+1) 1 (catS TB))) (fun v _=>1 - (RowKit.intOf v).toNat)
   case atStart=>exact .inl ⟨rfl,rfl⟩
   case round=>
    rcases hrel with ⟨rfl,rfl⟩ | ⟨rfl,hgx,hRx,hCx,hM1x,hM2x⟩
    ·have hS:=(hP0.gr hg).seq
     obtain⟨L,hL⟩:∃ L,seqC TB=L:=⟨_,rfl⟩
     have hL9:L.length=9:=by rw [← hL];rfl
     have hLo:∀ v∈L,v.oneCell'=true:=by rw [← hL];exact seqC_one _
     have hLk:L.length=k9:=by rw [hL9,hk9.out]
     have hL0:L[0]?=some (.string ⟨#[115]⟩):=by rw [← hL];rfl
     have hcs:catS TB=(DataW.map []:DataW Value).put (Lit.string [115]) (.held (.agg L.toArray)):=by rw [← hL];rfl
     rw [hL] at hS
     have la:=ldB hLk hS
     have st:=st_new wr 73 #[.string ⟨#[]⟩,.int .i64 0,.int .i64 0,.int .i64 0,.int .i64 0,.slice none 0 0,.slice none 0 0,.slice none 0 0,.int .i64 0] L (by rw [hL9];exact infoSeqs) (by rw [hL9];rfl) hLo (P:=Tryz.prog)
     have hX:=Blk.new wr L 73
     have gA:=(Gr.refl wr).alloc (.cells L.toArray 73)
     have hsl:=hS.lt
     go_upto_region 10 with fail
     have hR2:=hRr.gr gA
     have hC2:=hCr.gr gA
     have hM12:=hM1r.gr gA
     have hM22:=hM2r.gr gA
     have hg2:=hg.trans gA
     clear la st hRr hCr hM1r hM2r gA hPr hS
     generalize wr.alloc (.cells L.toArray 73)=W3 at *
     have x:=hX.lt
     have x0:=(hX.cel.2 0 _ hL0).1
     have lb:=ldB hLk hX
     have z:=hC2.lt
     have z0:=(hC2.cel.2 1 _ rfl).1
     go_wp2_with (at_mapUpdate;refine wpList_mapUpdate_own _ rfl _ _ _ 138 rfl 9 73 keyed_str Tryz.underlying138 heldR (PB+1+1+1) 0 (.map []) rfl hM22 (by unfold maxLen;omega) (.string ⟨#[115]⟩) (.agg L.toArray) (Lit.string [115]) rfl rfl (MapO.key ⟨#[115]⟩ (by unfold maxLen;decide)) (.held (.agg L.toArray)) [] rfl ?_;intro w9 hown9 hgrow9)
     have ne:∀ b,PB+1+1+1≠b→(some (PB+1+1+1):Option Nat)≠some b:=fun b hb e=>hb (by injection e)
     have e:=hPB.out
     rw [← hcs] at hown9
     have hgr9:Gr w w9:=hg2.grown hgrow9 (fun k hk=>by injection hk with hk;omega)
     have r3:=hR2.grown hgrow9 (ne _ (by omega))
     have r4:=hC2.grown hgrow9 (ne _ (by omega))
     have r5:=hM12.grown hgrow9 (ne _ (by omega))
     go_roundw
     case rel=>exact .inr ⟨rfl,hgr9,r3,r4,r5,hown9⟩
     case measure=>simp [RowKit.intOf]
    ·have z:=hCx.lt
     have z0:=(hCx.cel.2 0 _ rfl).1
     have z1:=(hCx.cel.2 1 _ rfl).1
     have r0:=hRx.lt
     obtain⟨r1,v1⟩:=hRx.cel.2 0 _ rfl
     obtain⟨r2,v2⟩:=hRx.cel.2 1 _ rfl
     go_wp2
     simp [-Bool.exists_bool,-Bool.forall_bool,bodyPost,results,Tryz.results69,go_sem,r0,r1,r2]
     have g1:=grown_setCell wr ⟨PB+1,0,none⟩ (.map (some (PB+1+1)))
     have g2:=grown_setCell (wr.setCell ⟨PB+1,0,none⟩ (.map (some (PB+1+1)))) ⟨PB+1,1,none⟩ (.map (some (PB+1+1+1)))
     have e:=hPB.out
     have ne:∀ b,PB+1≠b→(some (PB+1):Option Nat)≠some b:=fun b hb e=>hb (by injection e)
     exact⟨_,_,⟨rfl,rfl⟩,(hgx.setCell (by show w.heap.size≤PB+1;omega) _).setCell (by show w.heap.size≤PB+1;omega) _,(hM1x.grown g1 (ne _ (by omega))).grown g2 (ne _ (by omega)),(hM2x.grown g1 (ne _ (by omega))).grown g2 (ne _ (by omega))⟩
end Go.Proofs.YtnginfangeikpaaGreatDoor

namespace Go.Proofs.YtnginfangeikpaaGreatDoor
open Go.RowKit Go.Lib
set_option linter.unusedSimpArgs false
set_option linter.unusedVariables false
theorem infoTrk:(Tryz.prog.info? 28).map (fun i=>(i.zero,i.size,i.bytes))=some (some (.slice none 0 0),1,24):=by kernel_rfl
set_option maxHeartbeats 2000000 in
theorem growT_one (w:World) :
  Calls Tryz.prog 138 #[.slice none 0 0,.int .i64 1] w fun e w'=>∃ v',e=.returned v'∧Gr w w'∧w'.ownsRow w.heap.size 28 1 v' 0 []:=by
 obtain⟨ic,hic,hic0,hic1,hic2⟩:=info_parts infoTrk
 go_enter Tryz.func138,Tryz.ntmps138
 go_wp2_with (at_builtin;go_loud (refine wpList_append_make rfl (.tmp 20) (.tmp 21) 71 3 rfl 28 ic _ (by as_aux_lemma=>kernel_rfl) (by as_aux_lemma=>kernel_rfl) hic hic0 (by rw [hic1];rfl) (by rw [hic1];omega) (by rw [hic2];omega) 1 rfl rfl (by omega) (by omega) ?_);intro cap w2 hcap hg2 how2)
 go_ret
 rw [hic1] at how2
 exact⟨_,rfl,hg2,how2⟩
set_option maxHeartbeats 4000000 in
theorem concatT_one (VB TB:Nat) (tv:Value) (w:World) (hV:Blk w VB 71 [.slice (some ⟨TB,0,none⟩) 1 1,.slice none 0 0]) (hT:Blk w TB 28 [tv]) (htv:tv.oneCell'=true) :
  Calls Tryz.prog 122 #[.slice (some ⟨VB,0,none⟩) 2 2] w fun e w'=>∃ b o c,e=.returned (.slice (some ⟨b,o,none⟩) 1 c)∧Gr w w'∧b<w'.heap.size∧w'.cell? ⟨b,o,none⟩=some tv:=by
 obtain⟨ic,hic,hic0,hic1,hic2⟩:=info_parts infoTrk
 have z:=hV.lt
 have z0:=(hV.cel.2 0 _ rfl).1
 have z1:=(hV.cel.2 1 _ rfl).1
 go_enter Tryz.func122,Tryz.ntmps122
 go_wp2
 go_loopw [3,11] (fun n i wr=>(n=.int .i64 0∧i=.int .i64 0∧w=wr)∨(n=.int .i64 1∧i=.int .i64 1∧w=wr)∨(n=.int .i64 1∧i=.int .i64 2∧w=wr)) (fun _ i _=>2 - (RowKit.intOf i).toNat)
 case atStart=>exact .inl ⟨rfl,rfl,rfl⟩
 case round=>
  rcases hrel with ⟨rfl,rfl,rfl⟩ | ⟨rfl,rfl,rfl⟩ | ⟨rfl,rfl,rfl⟩
  ·go_wp2
   go_roundw
   case rel=>first | exact .inr (.inl ⟨rfl,rfl,rfl⟩) | exact .inr (.inl ⟨rfl,rfl,trivial⟩)
   case measure=>simp [RowKit.intOf]
  ·go_wp2
   go_roundw
   case rel=>first | exact .inr (.inr ⟨rfl,rfl,rfl⟩) | exact .inr (.inr ⟨rfl,rfl,trivial⟩)
   case measure=>simp [RowKit.intOf]
  ·go_upto_region 10 with (go_at_call 138;(with_reducible refine (growT_one w).mono ?_);rintro e w2 ⟨v2,rfl,hg2,how2⟩)
   obtain⟨p2,c2,rfl⟩:=own_shape how2
   go_wp2
   have how0:=Lib.hid how2
   go_loopw [6,27] (fun n i wx=>Gr w wx∧((i=.int .i64 0∧Hid (wx.ownsRow w.heap.size 28 1 n 0 []))∨(i=.int .i64 1∧Hid (wx.ownsRow w.heap.size 28 1 n 1 [tv]))∨(i=.int .i64 2∧Hid (wx.ownsRow w.heap.size 28 1 n 1 [tv])))) (fun _ i _=>2 - (RowKit.intOf i).toNat)
   case atStart=>exact⟨hg2,.inl ⟨rfl,how0⟩⟩
   case round=>
    obtain⟨hgx,hrel⟩:=hrel
    clear how2 how0 hg2
    have hV2:=hV.gr hgx
    have hT2:=hT.gr hgx
    have y:=hV2.lt
    have y0:=(hV2.cel.2 0 _ rfl).1
    have y1:=(hV2.cel.2 1 _ rfl).1
    have hsz:=hgx.size
    have hRd:Rd wr (.slice (some ⟨TB,0,none⟩) 1 1) 1 1 [tv]:=⟨rfl,_,_,rfl,.inr ⟨TB,0,rfl,hT2.lt,fun j u hu=>by
     have:=(hT2.cel.2 j u hu).1
     simpa using this⟩⟩
    rcases hrel with ⟨rfl,hO⟩ | ⟨rfl,hO⟩ | ⟨rfl,hO⟩
    ·obtain⟨p3,c3,rfl⟩:=own_shape hO.out
     go_wp2_with (at_builtin;go_loud (refine wpList_append_rd rfl (.tmp 31) (.tmp 32) 71 rfl w.heap.size 28 ic (.slice none 0 0) 1 24 (by as_aux_lemma=>kernel_rfl) hic hic0 hic1 hic2 rfl (by decide) (.slice p3 0 c3) 0 [] rfl hO.out _ 1 [tv] rfl hRd (by intro u hu;simp at hu;subst hu;exact htv) ?_ ?_ ?_ ?_);(· unfold maxLen;omega);(· omega);(· exact hsz);intro v9 w9 hown9 hgrow9;obtain⟨p10,c10,rfl⟩:=own_shape hown9)
     have hbas:∀ k,(Value.slice p3 0 c3).ownBlock=some k→w.heap.size≤k:=own_ge hO.out
     go_roundw
     case rel=>exact⟨hgx.grown hgrow9 hbas,.inr (.inl ⟨rfl,Lib.hid hown9⟩)⟩
     case measure=>simp [RowKit.intOf]
    ·obtain⟨p3,c3,rfl⟩:=own_shape hO.out
     go_wp2_with (at_builtin;go_loud (refine wpList_append_rd rfl (.tmp 31) (.tmp 32) 71 rfl w.heap.size 28 ic (.slice none 0 0) 1 24 (by as_aux_lemma=>kernel_rfl) hic hic0 hic1 hic2 rfl (by decide) (.slice p3 1 c3) 1 [tv] rfl hO.out _ 0 [] rfl (Rd.nil wr 1) (by intro u hu;simp at hu) ?_ ?_ ?_ ?_);(· unfold maxLen;omega);(· omega);(· exact hsz);intro v9 w9 hown9 hgrow9;obtain⟨p10,c10,rfl⟩:=own_shape hown9)
     have hbas:∀ k,(Value.slice p3 1 c3).ownBlock=some k→w.heap.size≤k:=own_ge hO.out
     go_roundw
     case rel=>exact⟨hgx.grown hgrow9 hbas,.inr (.inr ⟨rfl,Lib.hid hown9⟩)⟩
     case measure=>simp [RowKit.intOf]
    ·obtain⟨b,o,c3,rfl,hb,hc⟩:=(Rd.own hO.out).addr (by omega)
     go_wp2
     go_ret
     exact⟨b,o,c3,rfl,hgx,hb,by simpa using hc 0 tv rfl⟩
end Go.Proofs.YtnginfangeikpaaGreatDoor

namespace Go.Proofs.YtnginfangeikpaaGreatDoor
open Go.RowKit Go.Lib
set_option linter.unusedSimpArgs false
set_option linter.unusedVariables false
attribute [local go_sem] Oper.semAt_some
abbrev OfT (ts:List CM):={ m:CM // m∈ts }
set_option maxRecDepth 100000 in
set_option maxHeartbeats 4000000 in
theorem clips1_in (k:Nat) (hk22:22=k) (n:Nat) (hn:1≤n) (l Bs n₀ TB:Nat) (a:Option Addr) (cap:Nat) (ts:List CM) (J Jx:List (OfT ts)→World→Prop) (W:World) (hJ:AbidesFrom W.heap.size J)
  (hY:∀ pre (x:OfT ts) W1,J pre W1→pre.length<ts.length→YieldAt Fence.wide (n - 1) Tryz.prog l #[x.1.val] W1 fun e W'=>(e=.returned (.bool true)∧J (pre ++ [x]) W'∧Below n₀ W1 W')∨(e=.returned (.bool false)∧Jx (pre ++ [x]) W'))
  (hn0:n₀≤W.heap.size) (hS:Blk W Bs 73 (seqC TB)) (hT:Blk W TB 28 [.slice a ts.length cap]) (hN:ts.length≤64)
  (hc:ts.length=0∨∃ b o,a=some ⟨b,o,none⟩∧b<n₀∧∀ (i:Nat) (hi:i<ts.length) (j:Nat) (u:Value),ts[i].cells[j]?=some u→W.cell? ⟨b,o+i * 22+j,none⟩=some u) (hone:Hid (∀ c∈ts,∀ v∈c.cells,v.oneCell'=true)) (h0:J [] W) :
  CallsIn Fence.wide n Tryz.prog 121 #[.func (.yield l) #[] #[],.pointer (some ⟨Bs,0,none⟩)] W fun e W'=>(∃ v,e=.returned v)∧((∃ xs,xs=ts.attach∧J xs W')∨(∃ pre,Jx pre W')):=by
 have aE:∀ w,(isAgg 61).run Tryz.prog w=.ok true w:=Tryz.isAgg61
 have zE:∀ w,(Go.sizeOf 61).run Tryz.prog w=.ok k w:=fun w=>by rw [← hk22];exact Tryz.sizeOf61 w
 replace hk22:=Lib.hid hk22
 have hYH:=Lib.hid hY
 have hJH:=Lib.hid hJ
 have hcH:=Lib.hid hc
 clear hY hJ hc
 refine callsIn_of_wp Tryz.func121 rfl trivial ?_ rfl
 simp only [Tryz.ntmps121,List.size_toArray,List.length_cons,List.length_nil,Nat.reduceAdd,Nat.reduceSub,Array.replicate_succ,Array.replicate_zero,List.push_toArray,List.append_toArray,List.nil_append,List.cons_append]
 unfold seqC at hS
 have z:=hS.lt
 have z5:=(hS.cel.2 5 _ rfl).1
 have z6:=(hS.cel.2 6 _ rfl).1
 have gA:=(Gr.refl W).alloc (.cells #[.slice (some ⟨TB,0,none⟩) 1 1,.slice none 0 0] 71)
 have hCon:=Lib.hid (concatT_one W.heap.size TB (.slice a ts.length cap) (W.alloc (.cells #[.slice (some ⟨TB,0,none⟩) 1 1,.slice none 0 0] 71)) (Blk.new W [.slice (some ⟨TB,0,none⟩) 1 1,.slice none 0 0] 71) (hT.gr gA) rfl)
 gi_wp2_with (refine⟨trivial,?_⟩;gi_at_call 122;refine (callsIn_wide.2 hCon.out).mono ?_;rintro e w2 ⟨rb,ro,rc,rfl,hg2,hrb,hrc⟩)
 have hJ2:=hJH.out [] W w2 none h0 ((gA.trans hg2).by0) (by simp)
 have gW:=gA.trans hg2
 clear hCon z z5 z6 hS hT h0
 gi_loopw [14] (fun i wr=>(i=.int .i64 0∧w2=wr)∨(i=.int .i64 1∧Hid (J ts.attach wr))) (fun i _=>1 - (RowKit.intOf i).toNat)
 case atStart=>exact .inl ⟨rfl,rfl⟩
 case round=>
  rcases hrel with ⟨rfl,rfl⟩ | ⟨rfl,hJf⟩
  ·gi_wp2
   gi_loopw [20] (fun i wr=>∃ q:Nat,q≤ts.length∧i=.int .i64 q∧Hid (J (ts.attach.take q) wr)∧Below n₀ W wr∧W.heap.size≤wr.heap.size) (fun i _=>ts.length - (RowKit.intOf i).toNat)
   case atStart=>exact⟨0,Nat.zero_le _,rfl,Lib.hid (by simpa using hJ2),Below.mono gW hn0,gW.size⟩
   case round=>
    obtain⟨q,hq,rfl,hJq,hnx,hsz⟩:=hrel
    by_cases c1:q<ts.length
    ·have q1:decide ((q:Int)<(ts.length:Int))=true:=decide_eq_true (by omega)
     rcases hcH.out with h | ⟨cb,co,rfl,hcb,hcc⟩
     ·omega
     have hcell:∀ (x:Nat) (u:Value),ts[q].cells[x]?=some u→wr.cell? ⟨cb,co+q * 22+x,none⟩=some u:=fun x u hu=>(hnx.cell (p:=⟨cb,co+q * 22+x,none⟩) hcb).trans (hcc q c1 x u hu)
     have hcr:cb<wr.heap.size:=by omega
     have ho:=hone.out _ (List.getElem_mem c1)
     have hlen:(ts.attach.take q).length=q:=by rw [List.length_take,List.length_attach];omega
     have htk:ts.attach.take (q+1)=ts.attach.take q ++ [⟨ts[q],List.getElem_mem c1⟩]:=by
      rw [← List.take_append_getElem (by rw [List.length_attach];exact c1),List.getElem_attach]
     have hYq:=hYH.out (ts.attach.take q) ⟨ts[q],List.getElem_mem c1⟩
     rw [← htk,hlen] at hYq
     dsimp only at hYq
     obtain⟨lc,hlc⟩:∃ lc,ts[q].cells=lc:=⟨_,rfl⟩
     unfold CM.val at hYq
     rw [hlc] at hcell ho hYq
     have hlk:lc.length=k:=by rw [← hlc,← hk22.out];rfl
     have la:Sem.run Tryz.prog (loadCellsFrom ⟨cb,co+q * k,none⟩ 0 k #[]) wr=.ok lc.toArray wr:=by rw [show q * k=q * 22 by rw [← hk22.out]];exact ld_row hlk hcell
     have st:Sem.run Tryz.prog (storeCells ⟨wr.heap.size,0,none⟩ lc 0) (wr.alloc (.cells #[.int .i64 0,.int .i64 0,.int .i64 0,.string ⟨#[]⟩,.int .i64 0,.int .i64 0,.int .i64 0,.int .i64 0,.bool false,.int .i64 0,.string ⟨#[]⟩,.int .i64 0,.int .i64 0,.int .i64 0,.int .i64 0,.bool false,.int .i64 0,.int .i64 0,.int .i64 0,.string ⟨#[]⟩,.int .i64 0,.slice none 0 0] 61))=.ok () (wr.alloc (.cells lc.toArray 61)):=st_new wr _ _ lc (by rw [hlk,← hk22.out];exact infoClip) (by rw [hlk,← hk22.out];rfl) ho
     have hbx:=Blk.new wr lc 61
     have lb:=ldB hlk hbx
     have hbl:=hbx.lt
     have gB:=(Gr.refl wr).alloc (.cells lc.toArray 61)
     have hJ3:=hJH.out _ wr (wr.alloc (.cells lc.toArray 61)) none hJq.out gB.by0 (by simp)
     obtain⟨fn,tmps,assign,body,hy,hR⟩:=hYq _ hJ3 c1
     clear hcell hlc hYq htk hcc
     gi_wp2
     have hs3:=gB.size
     have hnx2:=hnx.trans (Below.mono gB (by omega))
     refine hR.mono ?_
     rintro e W3 (⟨rfl,hJ4,hk3⟩ | ⟨rfl,hJx4⟩)
     ·have hs4:=hk3.size
      have hJ5:=Lib.hid hJ4
      clear hR hy hJ4
      gi_wp2
      go_roundw
      case rel=>exact⟨q+1,by omega,by go_num,hJ5,hnx2.trans hk3,by omega⟩
      case measure=>simp [RowKit.intOf];omega
     ·have hJ5:=Lib.hid hJx4
      clear hR hy hJx4
      gi_wp2
      refine bodyPost_ret (results_none rfl _ _ _) rfl ?_
      exact⟨⟨_,rfl⟩,.inr ⟨_,hJ5.out⟩⟩
    ·have q1:decide ((q:Int)<(ts.length:Int))=false:=decide_eq_false (by omega)
     have hJe:Hid (J ts.attach wr):=Lib.hid (by have:=hJq.out;rwa [List.take_of_length_le (by rw [List.length_attach];omega)] at this)
     gi_wp2
     go_roundw
     case rel=>exact .inr ⟨rfl,hJe⟩
     case measure=>simp [RowKit.intOf]
  ·gi_wp2
   go_end0
   exact⟨⟨_,rfl⟩,.inl ⟨_,rfl,hJf.out⟩⟩
theorem clips_ok (TB:Nat) (w:World):Calls Tryz.prog 101 #[.agg (seqC TB).toArray] w fun e w'=>e=.returned (.func (.func 121) #[] #[.pointer (some ⟨w.heap.size,0,none⟩)])∧w'=w.alloc (.cells (seqC TB).toArray 73):=by
 have hmf:=hmf_any Tryz.prog
 unfold seqC
 go_enter Tryz.func101,Tryz.ntmps101
 go_wp2
 go_ret
 first | exact⟨rfl,rfl⟩ | rfl
theorem clips_stops (n:Nat) (hn:1≤n) (Bs n₀ TB:Nat) (tv:Value) (ts:List CM) (w:World) (hn0:n₀≤w.heap.size) (hS:Blk w Bs 73 (seqC TB)) (hT:Blk w TB 28 [tv]) (hTr:TrR w tv ts) (hTb:0<ts.length→∀ b,tv.ownBlock=some b→b<n₀) (hN:ts.length≤64) :
  SeqStopsK Fence.wide n Tryz.prog 121 #[.pointer (some ⟨Bs,0,none⟩)] (fun x:OfT ts=>#[x.1.val]) (Below n₀) (fun xs=>xs=ts.attach) (fun _=>True) ts.length w:=fun l J Jx W hW hJ hJx hY h0=>by
 obtain⟨a,cap,rfl,ha⟩:=(hTr.gr hW).shape
 refine (clips1_in 22 rfl n hn l Bs n₀ TB a cap ts J Jx W hJ hY (Nat.le_trans hn0 hW.size) (hS.gr hW) (hT.gr hW) hN ?_ (Lib.hid fun c hc=>(hTr.ch c hc).one) h0).mono ?_
 ·rcases ha with h | ⟨b,o,rfl,hb,hc⟩
  ·exact .inl h
  ·rcases Nat.eq_zero_or_pos ts.length with h0 | h0
   ·exact .inl h0
   ·exact .inr ⟨b,o,rfl,hTb h0 b (by simp [Value.ownBlock]),hc⟩
 ·rintro e W' ⟨he,⟨xs,rfl,hj⟩ | ⟨pre,hj⟩⟩
  ·exact⟨he,.inl ⟨_,rfl,hj⟩⟩
  ·exact⟨he,.inr ⟨_,trivial,hj⟩⟩
end Go.Proofs.YtnginfangeikpaaGreatDoor
