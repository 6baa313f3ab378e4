/-
  Contract of (catalogue).named of package timeline at the law's project.
  Conditions: no clip names a sequence.
-/
import Derived.Test.YtnginfangeikpaaGreatDoorSiC
namespace Go.Proofs.YtnginfangeikpaaGreatDoor
open Go.RowKit Go.Lib
set_option linter.unusedSimpArgs false
set_option linter.unusedVariables false
attribute [local go_sem] Oper.semAt_some
set_option maxRecDepth 100000 in
set_option maxHeartbeats 8000000 in
theorem named_core (k k9:Nat) (hk22:22=k) (hk9:9=k9) (b1 b2 TB:Nat) (tv:Value) (ts:List CM) (w:World) (hT:Blk w TB 28 [tv]) (hTr:TrR w tv ts) (hTb:0<ts.length→∀ b,tv.ownBlock=some b→b<w.heap.size) (hN:ts.length≤64) (hM2:MapO w b2 1 (catS TB))
  (hsr:Hid (∀ x∈ts,x.c.a.k≠2∧x.c.b.k≠2))
  (HK:Hid (∀ (w':World) (mb:Nat),w'.heap[mb]?=some (.map #[] 0)→Calls Tryz.prog 124 #[.map (some mb)] w' fun e w''=>∃ fv,e=.returned fv∧Gr w' w''∧Hid (∀ w3,Gr w'' w3→Calls Tryz.prog 123 #[fv] w3 fun e w4=>e=.returned (.slice none 0 0)∧Gr w3 w4))) :
  Calls Tryz.prog 102 #[.agg #[.map (some b1),.map (some b2)],.string ⟨#[115]⟩,.int .i64 2] w fun e w'=>e=.returned (.slice none 0 0)∧Gr w w':=by
 clear hk9
 have hmm:=@run_makeMap Tryz.prog
 have aE:∀ w,(isAgg 61).run Tryz.prog w=.ok true w:=Tryz.isAgg61
 have zE:∀ w,(Go.sizeOf 61).run Tryz.prog w=.ok k w:=fun w=>by rw [← hk22];exact Tryz.sizeOf61 w
 have hCl:Hid (∀ w',Calls Tryz.prog 101 #[.agg (seqC TB).toArray] w' fun e w''=>e=.returned (.func (.func 121) #[] #[.pointer (some ⟨w'.heap.size,0,none⟩)])∧w''=w'.alloc (.cells (seqC TB).toArray 73)):=Lib.hid fun w'=>clips_ok TB w'
 have hat:(catS TB).atKey (.string [115]) (.held (.agg zeroSq.toArray))=.held (.agg (seqC TB).toArray):=Maps.atKey_put_same ⟨[],rfl⟩ (show WideAt.IsKeyLit (Lit.string _) from trivial) _ _
 obtain⟨L,hL⟩:∃ L,seqC TB=L:=⟨_,rfl⟩
 rw [hL] at hCl hat
 have hg4:Gr w ((((w.alloc (.cells #[.map (some b1),.map (some b2)] 140)).alloc (.cells #[.int .i64 2] 3)).alloc (.map #[] 0)).alloc (.cells #[.map (some (w.heap.size+1+1))] 194)):=(((((Gr.refl w).alloc _).alloc _).alloc _).alloc _)
 have hlk:=MapO.look (hM2.gr hg4) Tryz.underlying138 (zeroSqs _) (s:=⟨#[115]⟩) (by unfold maxLen;decide) hat
 have hC:=(((Blk.new w [.map (some b1),.map (some b2)] 140).gr ((Gr.refl _).alloc (.cells #[.int .i64 2] 3))).gr ((Gr.refl _).alloc (.map #[] 0))).gr ((Gr.refl _).alloc (.cells #[.map (some (w.heap.size+1+1))] 194))
 have hI:=((blkE_at (w:=(w.alloc (.cells #[.map (some b1),.map (some b2)] 140))) (k:=w.heap.size+1) (by simp) [.int .i64 2] 3).gr ((Gr.refl _).alloc (.map #[] 0))).gr ((Gr.refl _).alloc (.cells #[.map (some (w.heap.size+1+1))] 194))
 have hE:((((w.alloc (.cells #[.map (some b1),.map (some b2)] 140)).alloc (.cells #[.int .i64 2] 3)).alloc (.map #[] 0)).alloc (.cells #[.map (some (w.heap.size+1+1))] 194)).heap[w.heap.size+1+1]?=some (.map #[] 0):=by
  refine (Below.heap_alloc _ _ _ (by simp)).trans ?_
  have:=World.alloc_heap_new ((w.alloc (.cells #[.map (some b1),.map (some b2)] 140)).alloc (.cells #[.int .i64 2] 3)) (.map #[] 0)
  simpa using this
 have hV:=blkE_at (w:=(((w.alloc (.cells #[.map (some b1),.map (some b2)] 140)).alloc (.cells #[.int .i64 2] 3)).alloc (.map #[] 0))) (k:=w.heap.size+1+1+1) (by simp) [.map (some (w.heap.size+1+1))] 194
 have hWs:((((w.alloc (.cells #[.map (some b1),.map (some b2)] 140)).alloc (.cells #[.int .i64 2] 3)).alloc (.map #[] 0)).alloc (.cells #[.map (some (w.heap.size+1+1))] 194)).heap.size=w.heap.size+1+1+1+1:=by simp
 have z:=hC.lt
 have z1:=(hC.cel.2 1 _ rfl).1
 replace hk22:=Lib.hid hk22
 refine (callsIn_wide (n:=3)).1 ?_
 refine callsIn_of_wp_marks Tryz.func102 rfl trivial ?_ rfl
 simp only [Tryz.ntmps102,List.size_toArray,List.length_cons,List.length_nil,Nat.reduceAdd,Nat.reduceSub,Array.replicate_succ,Array.replicate_zero,List.push_toArray,List.append_toArray,List.nil_append,List.cons_append]
 gi_wp2_with (refine⟨trivial,?_⟩;gi_at_call 101;refine (callsIn_wide.2 (hCl.out _)).mono ?_;rintro e w2 ⟨rfl,rfl⟩)
 have gB:=(Gr.refl ((((w.alloc (.cells #[.map (some b1),.map (some b2)] 140)).alloc (.cells #[.int .i64 2] 3)).alloc (.map #[] 0)).alloc (.cells #[.map (some (w.heap.size+1+1))] 194))).alloc (.cells L.toArray 73)
 have hX:=blkE_at hWs L 73
 have hI0:=hI.gr gB
 have hV0:=hV.gr gB
 have hE0:=(Below.heap_alloc ((((w.alloc (.cells #[.map (some b1),.map (some b2)] 140)).alloc (.cells #[.int .i64 2] 3)).alloc (.map #[] 0)).alloc (.cells #[.map (some (w.heap.size+1+1))] 194)) (.cells L.toArray 73) (w.heap.size+1+1) (by simp)).trans hE
 have hgW:=hg4.trans gB
 have hWs0:=hX.lt
 clear hC hI hV hE hg4 hlk z z1 gB hM2 hmm
 generalize (((((w.alloc (.cells #[.map (some b1),.map (some b2)] 140)).alloc (.cells #[.int .i64 2] 3)).alloc (.map #[] 0)).alloc (.cells #[.map (some (w.heap.size+1+1))] 194)).alloc (.cells L.toArray 73))=W0 at *
 refine wpIn_rangeFunc_ownH rfl (by omega) (gf:=121) (lb:=#[.pointer (some ⟨w.heap.size+1+1+1+1,0,none⟩)]) rfl trivial (enters_of Tryz.func121 (by as_aux_lemma=>kernel_rfl) rfl)
  (clips_stops 2 (by omega) (w.heap.size+1+1+1+1) W0.heap.size TB tv ts W0 (Nat.le_refl _) (by rw [hL];exact hX) (hT.gr hgW) (hTr.gr hgW) (fun h0 b hb=>Nat.lt_of_lt_of_le (hTb h0 b hb) hgW.size) hN) belowK_t (belowK_b (Nat.le_refl _)) (Below.refl _ _) (fun _=>rfl)
  (fun pre W=>Below W0.heap.size W0 W) (fun c pre W=>False) (ownFrom_below (Nat.le_refl _) (Nat.le_refl _)) (fun c s W W' row h=>h.elim) (Below.refl _ _)
  (fun x a' W=>∃ Bx,W0.heap.size≤Bx∧Blk W Bx 61 x.1.cells∧a'={ tmps:=#[.agg #[.map (some b1),.map (some b2)],.string ⟨#[115]⟩,.int .i64 2,.pointer (some ⟨w.heap.size,0,none⟩),undef,.pointer (some ⟨w.heap.size+1,0,none⟩),.slice none 0 0,.pointer (some ⟨w.heap.size+1+1+1,0,none⟩),.pointer (some ⟨Bx,0,none⟩),undef,undef,.map (some (w.heap.size+1+1)),.pointer (some ⟨w.heap.size,1,none⟩),.map (some b2),.string ⟨#[115]⟩,.agg L.toArray,.func (.func 121) #[] #[.pointer (some ⟨w.heap.size+1+1+1+1,0,none⟩)],.agg x.1.cells.toArray,undef,undef,undef,undef,undef,undef,undef,undef,undef,undef,undef,undef,undef,undef,undef,undef,undef,undef,undef],defers:=[] })
  (fun x a' _ X Y row hs hg hr=>by
   obtain⟨Bx,e1,e2,e3⟩:=hs
   refine⟨Bx,e1,e2.grown hg (fun e=>?_),e3⟩
   obtain⟨_,o,ho,hc⟩:=hr Bx e
   unfold Blk at e2
   rw [e2] at ho
   cases ho
   cases hc)
  ?assign ?body ?done ?stop
 case assign=>
  rintro l pre x W K hB hK
  have ho:=(hTr.ch x.1 x.2).one
  obtain⟨lc,hlc⟩:∃ lc,x.1.cells=lc:=⟨_,rfl⟩
  have hlk:lc.length=k:=by rw [← hlc,← hk22.out];rfl
  unfold CM.val
  rw [hlc] at hK ho ⊢
  have st:Sem.run Tryz.prog (storeCells ⟨W.heap.size,0,none⟩ lc 0) (W.alloc (.cells #[.int .i64 0,.int .i64 0,.int .i64 0,.string ⟨#[]⟩,.int .i64 0,.int .i64 0,.int .i64 0,.int .i64 0,.bool false,.int .i64 0,.string ⟨#[]⟩,.int .i64 0,.int .i64 0,.int .i64 0,.int .i64 0,.bool false,.int .i64 0,.int .i64 0,.int .i64 0,.string ⟨#[]⟩,.int .i64 0,.slice none 0 0] 61))=.ok () (W.alloc (.cells lc.toArray 61)):=st_new W _ _ lc (by rw [hlk,← hk22.out];exact infoClip) (by rw [hlk,← hk22.out];rfl) ho
  have hz:=hB.size
  gi_wp2
  exact hK _ _ ((KeepsOthers.alloc _ _).from _) ((Below.refl _ W).alloc hz _) (hB.alloc hz _) ⟨W.heap.size,hz,Blk.new W lc 61,rfl⟩
 case body=>
  rintro l pre x a' W hl ⟨r,hr⟩ hB ⟨Bx,hBx,bX,rfl⟩ hlt
  have hsx:=hsr.out x.1 x.2
  obtain⟨m,hm⟩:=x
  dsimp only at bX hsx ⊢
  obtain⟨hs1,hs2⟩:=hsx
  have y:=bX.lt
  have y2:=(bX.cel.2 2 _ rfl).1
  have y3:=(bX.cel.2 3 _ rfl).1
  have y4:=(bX.cel.2 4 _ rfl).1
  have y5:=(bX.cel.2 5 _ rfl).1
  have y6:=(bX.cel.2 6 _ rfl).1
  have y7:=(bX.cel.2 7 _ rfl).1
  have y8:=(bX.cel.2 8 _ rfl).1
  have y9:=(bX.cel.2 9 _ rfl).1
  have y10:=(bX.cel.2 10 _ rfl).1
  have y11:=(bX.cel.2 11 _ rfl).1
  have y12:=(bX.cel.2 12 _ rfl).1
  have y13:=(bX.cel.2 13 _ rfl).1
  have y14:=(bX.cel.2 14 _ rfl).1
  have y15:=(bX.cel.2 15 _ rfl).1
  gi_wp2
  have hIB:=hI0.gr hB
  clear y y2 y3 y4 y5 y6 y7 y8 y9 y10 y11 y12 y13 y14 y15
  gi_loopw [23] (fun i wr=>Gr W wr∧(i=.int .i64 0∨i=.int .i64 1∨i=.int .i64 2)) (fun i _=>2 - (RowKit.intOf i).toNat)
  case atStart=>exact⟨Gr.refl _,.inl rfl⟩
  case round=>
   obtain⟨hgr,hrel⟩:=hrel
   have hix:=fun w' x0 x1 x2 x3 x4 x5 x6 x7 x8 x9 x10 x11 x12 x13=>(idx_src w' x0 x1 x2 x3 x4 x5 x6 x7 x8 x9 x10 x11 x12 x13).1
   have hiy:=fun w' x0 x1 x2 x3 x4 x5 x6 x7 x8 x9 x10 x11 x12 x13=>(idx_src w' x0 x1 x2 x3 x4 x5 x6 x7 x8 x9 x10 x11 x12 x13).2
   rcases hrel with rfl | rfl | rfl
   ·have hI1:=hIB.gr hgr
    have gA:=(Gr.refl wr).alloc (.cells m.c.a.cells.toArray 59)
    have hSx:=Blk.new wr m.c.a.cells 59
    have z:=(hI1.gr gA).lt
    have z0:=((hI1.gr gA).cel.2 0 _ rfl).1
    have x0:=hSx.lt
    have x1:=(hSx.cel.2 0 _ rfl).1
    have hgf:=hgr.trans gA
    unfold Sr.cells at *
    have q2:(m.c.a.k == 2)=false:=by simp [hs1]
    gi_wp2
    go_roundw
    case rel=>exact⟨hgf,.inr (.inl rfl)⟩
    case measure=>simp [RowKit.intOf]
   ·have hI1:=hIB.gr hgr
    have gA:=(Gr.refl wr).alloc (.cells m.c.b.cells.toArray 59)
    have hSx:=Blk.new wr m.c.b.cells 59
    have z:=(hI1.gr gA).lt
    have z0:=((hI1.gr gA).cel.2 0 _ rfl).1
    have x0:=hSx.lt
    have x1:=(hSx.cel.2 0 _ rfl).1
    have hgf:=hgr.trans gA
    unfold Sr.cells at *
    have q2:(m.c.b.k == 2)=false:=by simp [hs2]
    gi_wp2
    go_roundw
    case rel=>exact⟨hgf,.inr (.inr rfl)⟩
    case measure=>simp [RowKit.intOf]
   ·gi_wp2
    exact⟨KeepsFrom.of_grownBy hgr.by0 (by simp),Below.mono hgr hB.size,hB.trans (Below.mono hgr hB.size)⟩
 case done=>
  rintro D ys W hD rfl hB hK
  have hV1:=hV0.gr hB
  have y0:=hV1.lt
  have y1:=(hV1.cel.2 0 _ rfl).1
  have hE1:W.heap[w.heap.size+1+1]?=some (.map #[] 0):=(Below.block hB _ (by omega)).trans hE0
  have hKk:=Lib.hid (HK.out W _ hE1)
  have hDl:D<W.heap.size:=(Array.getElem?_eq_some_iff.1 hK).1
  gi_wp2_with (first
   | (refine⟨trivial,?_⟩;gi_at_call 124;refine (callsIn_wide.2 hKk.out).mono ?_;rintro e w3 ⟨fv,rfl,hg3,hSo⟩;have hSo2:=Lib.hid (hSo.out w3 (Gr.refl _)))
   | (refine⟨trivial,?_⟩;gi_at_call 123;refine (callsIn_wide.2 hSo2.out).mono ?_;rintro e w4 ⟨rfl,hg4⟩))
  have hg34:=hg3.trans hg4
  have hK2:w4.heap[D]?=some (.deferred (some [])):=(Below.block hg34 D hDl).trans hK
  refine⟨by simp,.inl ⟨_,_,rfl,run_takeDeferred hK2,?_⟩⟩
  have hg9:=((hgW.trans hB).trans hg34).grown (grownBy_putObj' _ D (.deferred none)) (fun k e=>by injection e with e;omega)
  refine⟨.slice none 0 0,?_,rfl,hg9⟩
  simp [results,Tryz.results102,go_sem]
 case stop=>
  rintro D c pre W hD _ h
  exact h.elim
end Go.Proofs.YtnginfangeikpaaGreatDoor

namespace Go.Proofs.YtnginfangeikpaaGreatDoor
open Go.RowKit Go.Lib
set_option linter.unusedSimpArgs false
set_option linter.unusedVariables false
theorem zeroInt (w:World):(zeroValue 3).run Tryz.prog w=.ok (.int .i64 0) w:=by
 simp [zeroValue,go_sem]
 rfl
set_option maxRecDepth 20000 in
set_option maxHeartbeats 4000000 in
theorem chain_core (b1 b2 kb:Nat) (w:World) (hK:MapO w kb 0 (.map []))
  (HN:Hid (∀ w',(∃ w1,Gr w w1∧w1.grownBy w' (some kb))→Calls Tryz.prog 102 #[.agg #[.map (some b1),.map (some b2)],.string ⟨#[115]⟩,.int .i64 2] w' fun e w''=>e=.returned (.slice none 0 0)∧Gr w' w'')) :
  Calls Tryz.prog 71 #[.agg #[.map (some b1),.map (some b2)],.string ⟨#[115]⟩,.map (some kb)] w fun e w'=>e=.returned (.int .i64 1)∧(∃ w1 w2 w3,Gr w w1∧w1.grownBy w2 (some kb)∧Gr w2 w3∧w3.grownBy w' (some kb))∧∃ D,MapO w' kb 2 D∧D.atKey (.string [115]) (.held (.int .i64 0))=.held (.int .i64 1):=by
 have hC:=Blk.new w [.map (some b1),.map (some b2)] 140
 have hg0:Gr w (w.alloc (.cells #[.map (some b1),.map (some b2)] 140)):=(Gr.refl w).alloc _
 have hK0:=hK.gr hg0
 have hkb:=hK.lt
 go_enter Tryz.func71,Tryz.ntmps71
 go_upto_region 1 with fail
 generalize w.alloc (.cells #[.map (some b1),.map (some b2)] 140)=W at *
 have hlk:=MapO.look hK0 Tryz.underlying142 (zeroInt _) (s:=⟨#[115]⟩) (by unfold maxLen;decide) (u:=.int .i64 0) rfl
 go_upto_region 5 with (at_mapUpdate;refine wpList_mapUpdate_own _ rfl _ _ _ 142 rfl 9 3 keyed_str Tryz.underlying142 heldR kb 0 (.map []) rfl hK0 (by unfold maxLen;omega) (.string ⟨#[115]⟩) (.int .i64 (-1)) (Lit.string [115]) rfl rfl (MapO.key ⟨#[115]⟩ (by unfold maxLen;decide)) (.held (.int .i64 (-1))) [] rfl ?_;intro w1 hown1 hgrow1)
 have hC1:=hC.grown hgrow1 (by intro e;injection e with e;omega)
 have z:=hC1.lt
 have z1:=(hC1.cel.2 0 _ rfl).1
 have z2:=(hC1.cel.2 1 _ rfl).1
 have HN1:=Lib.hid (HN.out w1 ⟨W,hg0,hgrow1⟩)
 go_wp2_with (go_at_call 102;(with_reducible refine (HN1.out).mono ?_);rintro e w2 ⟨rfl,hg2⟩)
 go_loopw [8,25] (fun a v wr=>a=.int .i64 1∧v=.int .i64 0∧w2=wr) (fun _ v _=>0)
 case atStart=>exact⟨rfl,rfl,rfl⟩
 case round=>
  obtain⟨rfl,rfl,rfl⟩:=hrel
  have hown2:=MapO.gr hg2 hown1
  go_wp2_with (at_mapUpdate;refine wpList_mapUpdate_own _ rfl _ _ _ 142 rfl 9 3 keyed_str Tryz.underlying142 heldR kb (0+1) _ rfl hown2 (by unfold maxLen;omega) (.string ⟨#[115]⟩) (.int .i64 1) (Lit.string [115]) rfl rfl (MapO.key ⟨#[115]⟩ (by unfold maxLen;decide)) (.held (.int .i64 1)) [] rfl ?_;intro w3 hown3 hgrow3)
  go_ret
  exact⟨rfl,⟨W,w1,w2,hg0,hgrow1,hg2,hgrow3⟩,_,hown3,Maps.atKey_put_same (World.ownsMap.isMap hown2) (show WideAt.IsKeyLit (Lit.string _) from trivial) _ _⟩
end Go.Proofs.YtnginfangeikpaaGreatDoor

namespace Go.Proofs.YtnginfangeikpaaGreatDoor
open Go.RowKit Go.Lib
set_option linter.unusedSimpArgs false
set_option linter.unusedVariables false
set_option maxRecDepth 20000 in
set_option maxHeartbeats 4000000 in
theorem same_two (op num den par:Int) (a b:Option Addr) (c d:Nat) (w:World)
  (HE:Hid (∀ w',Gr w w'→Calls Tryz.prog 24 #[.slice a 2 c,.slice b 2 d,.func (.func 10) #[] #[]] w' fun e w''=>e=.returned (.bool true)∧Gr w' w'')) :
  Calls Tryz.prog 10 #[.agg #[.int .i64 op,.string noTxE,.int .i64 0,.int .i64 num,.int .i64 den,.int .i64 par,.string noTxE,.slice a 2 c],.agg #[.int .i64 op,.string noTxE,.int .i64 0,.int .i64 num,.int .i64 den,.int .i64 par,.string noTxE,.slice b 2 d]] w fun e w'=>e=.returned (.bool true)∧Gr w w':=by
 go_enter Tryz.func10,Tryz.ntmps10
 go_wp2_with (go_at_call 24;(with_reducible refine (HE.out _ (((Gr.refl w).alloc _).alloc _)).mono ?_);rintro e w2 ⟨rfl,hg2⟩)
 go_ret
 exact⟨rfl,(((Gr.refl w).alloc _).alloc _).trans hg2⟩
theorem same_refl {w:World} {cs ds:List Value} {x:Ex2} (h1:ExR w cs x) (h2:ExR w ds x):Calls Tryz.prog 10 #[.agg cs.toArray,.agg ds.toArray] w fun e w'=>e=.returned (.bool true)∧Gr w w':=by
 cases x with
 | lf l=>
  obtain⟨a1,n1,rfl⟩:=h1
  obtain⟨a2,n2,rfl⟩:=h2
  have:=same_lf l l a1 a2 n1 n2 w
  rwa [decide_eq_true (rfl:l=l)] at this
 | mx op num den par l m=>
  obtain⟨a,c,a1,a2,n1,n2,rfl,hA⟩:=h1
  obtain⟨b,d,b1,b2,n3,n4,rfl,hB⟩:=h2
  exact same_two op num den par a b c d w (Lib.hid fun w' hg=>eqE_two 8 rfl l m a b c d a1 a2 b1 b2 w' n1 n2 n3 n4 (hA.gr hg) (hB.gr hg))
end Go.Proofs.YtnginfangeikpaaGreatDoor

namespace Go.Proofs.YtnginfangeikpaaGreatDoor
open Go.RowKit Go.Lib
set_option linter.unusedSimpArgs false
set_option linter.unusedVariables false
set_option maxRecDepth 20000 in
set_option maxHeartbeats 4000000 in
theorem name_s (w:World):Calls Tryz.prog 58 #[.string ⟨#[115]⟩] w fun e w'=>e=.returned (.bool true)∧Gr w w':=by
 go_enter Tryz.func58,Tryz.ntmps58
 go_wp2
 go_loop [3,4,15] (fun _ _ k=>k=.int .i64 0∨k=.int .i64 1) (fun _ _ k=>1 - (RowKit.intOf k).toNat)
 case atStart=>exact .inl rfl
 case round=>
  rcases hrel with rfl | rfl
  ·go_wp2
   exact⟨by simp,by simp [RowKit.intOf]⟩
  ·go_wp2
   go_ret
   exact⟨rfl,(by repeat (first | with_reducible exact Gr.refl _ | with_reducible assumption | refine Gr.setCell ?_ (by first | omega | (simp;done) | (simp;omega)) _ | refine Gr.alloc ?_ _ | refine Gr.drew ?_ | refine Gr.drewN ?_ _ | refine Gr.trans ?_ (by with_reducible assumption)))⟩
set_option maxRecDepth 20000 in
set_option maxHeartbeats 4000000 in
theorem name_m1 (w:World):Calls Tryz.prog 58 #[.string ⟨#[109,49]⟩] w fun e w'=>e=.returned (.bool true)∧Gr w w':=by
 go_enter Tryz.func58,Tryz.ntmps58
 go_wp2
 go_loop [3,4,15] (fun _ _ k=>k=.int .i64 0∨k=.int .i64 1∨k=.int .i64 2) (fun _ _ k=>2 - (RowKit.intOf k).toNat)
 case atStart=>exact .inl rfl
 case round=>
  rcases hrel with rfl | rfl | rfl
  ·go_wp2
   exact⟨by simp,by simp [RowKit.intOf]⟩
  ·go_wp2
   exact⟨by simp,by simp [RowKit.intOf]⟩
  ·go_wp2
   go_ret
   exact⟨rfl,(by repeat (first | with_reducible exact Gr.refl _ | with_reducible assumption | refine Gr.setCell ?_ (by first | omega | (simp;done) | (simp;omega)) _ | refine Gr.alloc ?_ _ | refine Gr.drew ?_ | refine Gr.drewN ?_ _ | refine Gr.trans ?_ (by with_reducible assumption)))⟩
set_option maxRecDepth 20000 in
set_option maxHeartbeats 4000000 in
theorem name_t7 (w:World):Calls Tryz.prog 58 #[.string ⟨#[116,97,112,101,95,55]⟩] w fun e w'=>e=.returned (.bool true)∧Gr w w':=by
 go_enter Tryz.func58,Tryz.ntmps58
 go_wp2
 go_loop [3,4,15] (fun _ _ k=>k=.int .i64 0∨k=.int .i64 1∨k=.int .i64 2∨k=.int .i64 3∨k=.int .i64 4∨k=.int .i64 5∨k=.int .i64 6) (fun _ _ k=>6 - (RowKit.intOf k).toNat)
 case atStart=>exact .inl rfl
 case round=>
  rcases hrel with rfl | rfl | rfl | rfl | rfl | rfl | rfl
  ·go_wp2
   exact⟨by simp,by simp [RowKit.intOf]⟩
  ·go_wp2
   exact⟨by simp,by simp [RowKit.intOf]⟩
  ·go_wp2
   exact⟨by simp,by simp [RowKit.intOf]⟩
  ·go_wp2
   exact⟨by simp,by simp [RowKit.intOf]⟩
  ·go_wp2
   exact⟨by simp,by simp [RowKit.intOf]⟩
  ·go_wp2
   exact⟨by simp,by simp [RowKit.intOf]⟩
  ·go_wp2
   go_ret
   exact⟨rfl,(by repeat (first | with_reducible exact Gr.refl _ | with_reducible assumption | refine Gr.setCell ?_ (by first | omega | (simp;done) | (simp;omega)) _ | refine Gr.alloc ?_ _ | refine Gr.drew ?_ | refine Gr.drewN ?_ _ | refine Gr.trans ?_ (by with_reducible assumption)))⟩
theorem name_k (q:Nat) (w:World):Calls Tryz.prog 58 #[.string (nmK q)] w fun e w'=>e=.returned (.bool true)∧Gr w w':=by
 rcases q with _ | _ | q
 ·exact name_a w
 ·exact name_m1 w
 ·exact name_t7 w
end Go.Proofs.YtnginfangeikpaaGreatDoor
