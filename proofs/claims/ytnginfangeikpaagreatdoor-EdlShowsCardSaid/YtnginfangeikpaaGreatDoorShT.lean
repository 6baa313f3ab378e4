/-
  Contracts of find and Frame of package denote at the law's project.
  Conditions: the project lies in memory; it is valid; the clips are of its media.
-/
import Derived.Test.YtnginfangeikpaaGreatDoorShK
namespace Go.Proofs.YtnginfangeikpaaGreatDoor
open Go.RowKit Go.Lib
set_option linter.unusedSimpArgs false
set_option linter.unusedVariables false
theorem infoSeqs:(Tryz.prog.info? 73).map (·.size)=some 9:=by kernel_rfl
def zeroSq:List Value:=[.string ⟨#[]⟩,.int .i64 0,.int .i64 0,.int .i64 0,.int .i64 0,.slice none 0 0,.slice none 0 0,.slice none 0 0,.int .i64 0]
theorem seqC_one (TB:Nat):∀ v∈seqC TB,v.oneCell'=true:=by
 intro v hv
 unfold seqC at hv
 simp only [List.mem_cons,List.not_mem_nil,or_false] at hv
 rcases hv with rfl | rfl | rfl | rfl | rfl | rfl | rfl | rfl | rfl <;> rfl
set_option maxRecDepth 20000 in
set_option maxHeartbeats 4000000 in
theorem find_core (k:Nat) (hk9:9=k) (MB mc SB TB:Nat) (mls:Nat→List Value) (tv:Value) (w:World) (hP0:PrjR w MB mls SB TB tv)
  (HV:Hid (∀ w',Gr w w'→Calls Tryz.prog 39 #[.agg (prjV MB mc SB).toArray] w' fun e w''=>e=.returned (.int .i64 0)∧Gr w' w'')) :
  Calls Tryz.prog 19 #[.agg (prjV MB mc SB).toArray,.string ⟨#[115]⟩] w fun e w'=>e=.returned (.tuple #[.agg (seqC TB).toArray,.int .i64 0])∧Gr w w':=by
 have aE:∀ w,(isAgg 73).run Tryz.prog w=.ok true w:=Tryz.isAgg73
 have zE:∀ w,(Go.sizeOf 73).run Tryz.prog w=.ok k w:=fun w=>by rw [← hk9];exact Tryz.sizeOf73 w
 obtain⟨L,hL⟩:∃ L,seqC TB=L:=⟨_,rfl⟩
 have hL9:L.length=9:=by rw [← hL];rfl
 have hLo:∀ v∈L,v.oneCell'=true:=by rw [← hL];exact seqC_one _
 have hLk:L.length=k:=by rw [hL9,hk9]
 have hL0:L[0]?=some (.string ⟨#[115]⟩):=by rw [← hL];rfl
 have hS0:=hP0.seq
 rw [hL] at hS0 ⊢
 have hI:=(Blk.new w (prjV MB mc SB) 35).gr ((Gr.refl _).alloc (.cells zeroSq.toArray 73))
 have hB:=blkE_at (w:=w.alloc (.cells (prjV MB mc SB).toArray 35)) (k:=w.heap.size+1) (by simp) zeroSq 73
 have hg0:Gr w ((w.alloc (.cells (prjV MB mc SB).toArray 35)).alloc (.cells zeroSq.toArray 73)):=((Gr.refl w).alloc _).alloc _
 replace hk9:=Lib.hid hk9
 unfold prjV zeroSq at *
 go_enter Tryz.func19,Tryz.ntmps19
 go_upto_region 1 with fail
 generalize (w.alloc (.cells #[.slice (some ⟨MB,0,none⟩) 3 mc,.slice (some ⟨SB,0,none⟩) 1 1] 35)).alloc (.cells #[.string ⟨#[]⟩,.int .i64 0,.int .i64 0,.int .i64 0,.int .i64 0,.slice none 0 0,.slice none 0 0,.slice none 0 0,.int .i64 0] 73)=W at *
 have z0:=hI.lt
 have z1:=(hI.cel.2 0 _ rfl).1
 have z2:=(hI.cel.2 1 _ rfl).1
 go_upto_region 4 with (go_at_call 39;(with_reducible refine (HV.out _ hg0).mono ?_);rintro e w1 ⟨rfl,hg1⟩)
 have hI1:=hI.gr hg1
 have hB1:=hB.gr hg1
 have hg01:=hg0.trans hg1
 have hS1:=hS0.gr hg01
 clear z0 z1 z2 hI hB hg0 hg1 HV
 have z0:=hI1.lt
 have z2:=(hI1.cel.2 1 _ rfl).1
 go_wp2
 go_loopw [18] (fun i wr=>i=.int .i64 0∧w1=wr) (fun _ _=>0)
 case atStart=>exact⟨rfl,rfl⟩
 case round=>
  obtain⟨rfl,rfl⟩:=hrel
  have la:=ldB hLk hS1
  have st:=st_new w1 73 #[.string ⟨#[]⟩,.int .i64 0,.int .i64 0,.int .i64 0,.int .i64 0,.slice none 0 0,.slice none 0 0,.slice none 0 0,.int .i64 0] L (by rw [hL9];exact infoSeqs) (by rw [hL9];rfl) hLo (P:=Tryz.prog)
  have hX:=Blk.new w1 L 73
  have gA:=(Gr.refl w1).alloc (.cells L.toArray 73)
  have hB2:=hB1.gr gA
  have hg2:=hg01.trans gA
  have hsl:=hS1.lt
  go_upto_region 7 with fail
  clear la st
  generalize w1.alloc (.cells L.toArray 73)=W2 at *
  have x:=hX.lt
  have x0:=(hX.cel.2 0 _ hL0).1
  have la:=ldB hLk hX
  have st:=stB hB2 (l:=L) (by rw [hL9];rfl) hLo
  have hlt:=hB2.lt
  have hb2:=blk_set hB2 L
  have ld2:=ldB hLk hb2
  have hg3:=gr_setRow hg2 (g:=w.heap.size+1) (by omega) L.toArray
  replace hL9:=Lib.hid hL9
  go_wp2
  simp [bodyPost,results,Tryz.results19,go_sem,aE,zE,ld2]
  exact hg3
theorem frame_idle (p q:Addr) (w:World) :
  CallsD Tryz.prog 18 #[.pointer (some p),.pointer (some q)] .returning w fun e u' w'=>e=.returned (.tuple #[])∧u'=.returning∧w'=w:=by
 refine callsD_of_wpS Tryz.func18 rfl fun c₀ cs hu=>?_
 apply wpS_seq
 apply wpS_region
 simp [wpOpsS,go_sem,recoverD,hu,Tryz.ntmps18,Exit.thenS]
 refine wpS_cond (t:=false) (by simp [Act.eval,Array.replicate]) ?_
 simp only [Bool.false_eq_true,if_false]
 refine wpS_of_wp (wp_skip ?_)
 cases c₀
 simp_all [bodyPostS,results,Tryz.results18]
set_option maxRecDepth 20000 in
set_option maxHeartbeats 8000000 in
theorem dframe_core (k k9:Nat) (hk8:8=k) (hk9:9=k9) (pl L:List Value) (n:Int) (X:Ex2) (w:World) (hpl:∃ a b,pl=[a,b]∧a.oneCell'=true∧b.oneCell'=true) (hL9:L.length=9) (hLo:∀ v∈L,v.oneCell'=true)
  (HF:Hid (∀ w',Gr w w'→Calls Tryz.prog 19 #[.agg pl.toArray,.string ⟨#[115]⟩] w' fun e w''=>e=.returned (.tuple #[.agg L.toArray,.int .i64 0])∧Gr w' w''))
  (HN:Hid (∀ w',Gr w w'→Calls Tryz.prog 20 #[.agg pl.toArray] w' fun e w''=>∃ b1 b2,e=.returned (.agg #[.map (some b1),.map (some b2)])∧Gr w' w''∧Hid (∀ w3,Gr w'' w3→Calls Tryz.prog 21 #[.agg #[.map (some b1),.map (some b2)],.string ⟨#[115]⟩,.int .i64 n] w3 fun e w4=>∃ cs,e=.returned (.agg cs.toArray)∧Gr w3 w4∧ExF w3.heap.size w4 cs X))) :
  Calls Tryz.prog 7 #[.agg pl.toArray,.string ⟨#[115]⟩,.int .i64 n] w fun e w'=>∃ cs,e=.returned (.tuple #[.agg cs.toArray,.int .i64 0])∧Gr w w'∧ExF w.heap.size w' cs X:=by
 have hmf:=hmf_any Tryz.prog
 have aE:∀ w,(isAgg 41).run Tryz.prog w=.ok true w:=Tryz.isAgg41
 have zE:∀ w,(Go.sizeOf 41).run Tryz.prog w=.ok k w:=fun w=>by rw [← hk8];exact Tryz.sizeOf41 w
 have aS:∀ w,(isAgg 73).run Tryz.prog w=.ok true w:=Tryz.isAgg73
 have zS:∀ w,(Go.sizeOf 73).run Tryz.prog w=.ok k9 w:=fun w=>by rw [← hk9];exact Tryz.sizeOf73 w
 obtain⟨pv,qv,rfl,hp1,hp2⟩:=hpl
 have hLk:L.length=k9:=by rw [hL9,hk9]
 have hI:=((Blk.new w [pv,qv] 35).gr ((Gr.refl _).alloc (.cells zeroEx.toArray 41))).gr ((Gr.refl _).alloc (.cells #[.int .i64 0] 29))
 have hB:=(blkE_at (w:=w.alloc (.cells #[pv,qv] 35)) (k:=w.heap.size+1) (by simp) zeroEx 41).gr ((Gr.refl _).alloc (.cells #[.int .i64 0] 29))
 have hE:=blkE_at (w:=(w.alloc (.cells #[pv,qv] 35)).alloc (.cells zeroEx.toArray 41)) (k:=w.heap.size+1+1) (by simp) [.int .i64 0] 29
 have hg0:Gr w (((w.alloc (.cells #[pv,qv] 35)).alloc (.cells zeroEx.toArray 41)).alloc (.cells #[.int .i64 0] 29)):=(((Gr.refl w).alloc _).alloc _).alloc _
 replace hk8:=Lib.hid hk8
 replace hk9:=Lib.hid hk9
 unfold zeroEx at *
 go_enter_defers Tryz.func7,Tryz.ntmps7
 go_upto_region 2 with fail
 generalize ((w.alloc (.cells #[pv,qv] 35)).alloc (.cells #[.int .i64 0,.string ⟨#[]⟩,.int .i64 0,.int .i64 0,.int .i64 0,.int .i64 0,.string ⟨#[]⟩,.slice none 0 0] 41)).alloc (.cells #[.int .i64 0] 29)=W at *
 have z0:=hI.lt
 have z1:=(hI.cel.2 0 _ rfl).1
 have z2:=(hI.cel.2 1 _ rfl).1
 go_upto_region 3 with (go_at_call 19;(with_reducible refine (HF.out _ hg0).mono ?_);rintro e w1 ⟨rfl,hg1⟩;have st:=st_new w1 73 #[.string ⟨#[]⟩,.int .i64 0,.int .i64 0,.int .i64 0,.int .i64 0,.slice none 0 0,.slice none 0 0,.slice none 0 0,.int .i64 0] L (by rw [hL9];exact infoSeqs) (by rw [hL9];rfl) hLo (P:=Tryz.prog))
 have gA:=hg1.alloc (.cells L.toArray 73)
 have hI1:=hI.gr gA
 have hB1:=hB.gr gA
 have hE1:=hE.gr gA
 have hg01:=hg0.trans gA
 clear z0 z1 z2 hI hB hE hg0 HF gA st
 generalize w1.alloc (.cells L.toArray 73)=W1 at *
 have z0:=hI1.lt
 have z1:=(hI1.cel.2 0 _ rfl).1
 have z2:=(hI1.cel.2 1 _ rfl).1
 go_wp2_with (first
  | (go_at_call 20;(with_reducible refine (HN.out _ hg01).mono ?_);rintro e w2 ⟨b1,b2,rfl,hg2,HFr⟩)
  | (go_at_call 21;(with_reducible refine (HFr.out _ (Gr.refl _)).mono ?_);rintro e w3 ⟨rs,rfl,hg3,hx3⟩;have hB3:=(hB1.gr hg2).gr hg3;have hE3:=(hE1.gr hg2).gr hg3;have hrk:rs.length=k:=(by rw [hx3.r.len,hk8.out]);have st:=stB hB3 hx3.r.len hx3.r.one;have hE4:=blk_setRow_other hE3 (g:=w.heap.size+1) (by omega) rs.toArray;have e0:=hE4.lt;have e1:=(hE4.cel.2 0 _ rfl).1;have e2:=(hE4.cel.2 0 _ rfl).2))
 have hb3:=blk_set hB3 rs
 have hb4:=blk_other hb3 (p:=⟨w.heap.size+1+1,0,none⟩) (by show w.heap.size+1+1≠_;omega) (.int .i64 0)
 have ld3:=ldB hrk hb4
 have hE5:=hE4.set 0 (.int .i64 0)
 have y0:=hE5.lt
 have y1:=(hE5.cel.2 0 _ rfl).1
 have hz2:=hg2.size
 have hEl:=hE1.lt
 have hx4:=((hx3.less (b2:=w.heap.size+1+1+1) (by omega)).setRow (k:=w.heap.size+1) (by omega) rs.toArray).setCell (p:=⟨w.heap.size+1+1,0,none⟩) (by show w.heap.size+1+1<_;omega) (.int .i64 0)
 have hx5:=hx4.less (b2:=w.heap.size) (by omega)
 have hg5:=(gr_setRow ((hg01.trans hg2).trans hg3) (g:=w.heap.size+1) (by omega) rs.toArray).setCell (p:=⟨w.heap.size+1+1,0,none⟩) (by show w.heap.size≤w.heap.size+1+1;omega) (.int .i64 0)
 refine leaves_cons (f:=18) (args:=#[.pointer (some ⟨w.heap.size+1,0,none⟩),.pointer (some ⟨w.heap.size+1+1,0,none⟩)]) (by simp) (by simp [go_sem]) ?_
 refine (frame_idle _ _ _).mono ?_
 rintro e u' w'' ⟨rfl,rfl,rfl⟩
 simp [Leaves,settle,results,Tryz.results7,go_sem,aE,zE,ld3,y0,y1]
 exact⟨hg5,hx5⟩
end Go.Proofs.YtnginfangeikpaaGreatDoor

namespace Go.Proofs.YtnginfangeikpaaGreatDoor
open Go.RowKit Go.Lib
set_option linter.unusedSimpArgs false
set_option linter.unusedVariables false
def SrK (s:Sr) (n:Int) (P:Prop):Prop:=∃ r i,s=plS r i∧0≤i∧i≤1099511627776∧r.size≤1000000∧(P→r.size≠0→(∃ q,q<3∧r=nmK q)∧i+n≤5000)
structure ClK (c:Cl):Prop where
 len:0≤c.len∧c.len≤2147483647
 kd:c.kind=0∨c.kind=1∨c.kind=2∨c.kind=3
 off:0≤c.off∧c.off≤2147483647
 tot:0≤c.tot∧c.tot≤2147483647
 a:SrK c.a c.len (c.kind≠0)
 b:SrK c.b c.len (c.kind≠0∧c.kind≠1)
theorem place_src {s:Sr} {n:Int} {P:Prop} (h:SrK s n P) (w:World):Calls Tryz.prog 72 #[.agg s.cells.toArray] w fun e w'=>e=.returned (.agg (plcOf s).toArray)∧Gr w w':=by
 obtain⟨r,i,rfl,h0,h1,_,_⟩:=h
 have:=placeOf_any r i w ⟨h0,h1⟩
 rw [plcOf_pl]
 exact this
theorem dframe_any (MB mc SB TB:Nat) (mls:Nat→List Value) (tv:Value) (ts:List CM) (n:Int) (w:World) (hP0:PrjR w MB mls SB TB tv) (hT:TrR w tv ts) (hN64:ts.length≤64) (hn:0≤n∧n≤2147483647)
  (hck:∀ c∈ts.map CM.c,ClK c) (htot:tot (ts.map CM.c)≤2147483647)
  (HV:Hid (∀ w',Gr w w'→Calls Tryz.prog 39 #[.agg (prjV MB mc SB).toArray] w' fun e w''=>e=.returned (.int .i64 0)∧Gr w' w'')) :
  Calls Tryz.prog 7 #[.agg (prjV MB mc SB).toArray,.string ⟨#[115]⟩,.int .i64 n] w fun e w'=>∃ cs,e=.returned (.tuple #[.agg cs.toArray,.int .i64 0])∧Gr w w'∧ExF w.heap.size w' cs (shC (ts.map CM.c) n):=by
 obtain⟨at_,ct,rfl,_⟩:=hT.shape
 have hlen:∀ c∈ts.map CM.c,0≤c.len:=fun c hc=>(hck c hc).len.1
 refine dframe_core 8 9 rfl rfl (prjV MB mc SB) (seqC TB) n _ w ⟨_,_,rfl,rfl,rfl⟩ rfl (seqC_one TB)
  (Lib.hid fun w' hg=>find_core 9 rfl MB mc SB TB mls _ w' (hP0.gr hg) (Lib.hid fun w'' hg2=>HV.out w'' (hg.trans hg2))) (Lib.hid fun w' hg=>?_)
 refine (index_core 141 rfl MB mc SB TB mls (.slice at_ ts.length ct) ts w' (hP0.gr hg) rfl (Lib.hid fun w'' hg2=>?_)).mono ?_
 ·refine (layer_core 3 22 7 rfl rfl rfl ts.length at_ ct ts w'' rfl hN64 (hT.gr (hg.trans hg2)) hlen htot (Lib.hid fun c hc w3=>⟨place_src (hck c hc).a w3,place_src (hck c hc).b w3⟩)).mono ?_
  exact fun e w3 h=>h
 rintro e w2 ⟨b1,b2,lb,ev,pv,rfl,hg2,⟨n1,D1,hM1,hD1⟩,⟨n2,D2,hM2,hat2⟩,hLb,hEv,hPv⟩
 refine⟨b1,b2,rfl,hg2,Lib.hid fun w3 hg3=>?_⟩
 obtain⟨_,ae,ce,rfl,_⟩:=id hEv
 obtain⟨_,ap,cp,rfl,_⟩:=id hPv
 have hF:∀ q,q<3→FrR w3 b1 (nmK q):=fun q hq=>⟨n1,D1,hM1.gr hg3,hD1 q hq⟩
 refine frame_core 8 22 20 rfl rfl rfl b1 b2 lb ts.length ⟨#[115]⟩ n n2 D2 ts at_ ae ap ct ce cp w3 rfl hN64 (hM2.gr hg3) (by decide) hat2 (hLb.gr hg3) (hT.gr ((hg.trans hg2).trans hg3)) (hEv.gr hg3) (hPv.gr hg3) hn hlen htot ?_
 refine Lib.hid fun w4 i hi q hg4 hq0 hq1 hk=>?_
 have hc:=hck ts[i].c (List.mem_map.2 ⟨_,List.getElem_mem hi,rfl⟩)
 obtain⟨r1,i1,ha,a1,a2,a3,a4⟩:=hc.a
 obtain⟨r2,i2,hb,d1,d2,d3,d4⟩:=hc.b
 have hl:=hc.len
 rw [ha,hb,plcOf_pl,plcOf_pl]
 refine clip_any b1 (.map (some b2)) rfl ts[i] r1 r2 i1 i2 q w4 (hc.kd.resolve_left hk) ha hb hc.off hc.tot ⟨a1,a2⟩ ⟨d1,d2⟩ ⟨hq0,by omega⟩ a3 d3 (fun h=>?_) (fun h1 h=>?_)
 ·obtain⟨⟨z,hz,rfl⟩,h5⟩:=a4 hk h
  exact⟨(hF z hz).gr hg4,by omega⟩
 ·obtain⟨⟨z,hz,rfl⟩,h5⟩:=d4 ⟨hk,h1⟩ h
  exact⟨(hF z hz).gr hg4,by omega⟩
end Go.Proofs.YtnginfangeikpaaGreatDoor

namespace Go.Proofs.YtnginfangeikpaaGreatDoor
open Go.RowKit Go.Lib
set_option linter.unusedSimpArgs false
set_option linter.unusedVariables false
set_option maxRecDepth 20000 in
set_option maxHeartbeats 4000000 in
theorem silent_ok (l:List Value) (a:Option Addr) (c:Nat) (w:World) (h20:l[20]?=some (.int .i64 0)) (h21:l[21]?=some (.slice a 0 c)) :
  Calls Tryz.prog 98 #[.agg l.toArray] w fun e w'=>e=.returned (.bool true)∧Gr w w':=by
 have hb:=Blk.new w l 61
 have hg0:Gr w (w.alloc (.cells l.toArray 61)):=(Gr.refl w).alloc _
 go_enter Tryz.func98,Tryz.ntmps98
 go_upto_region 1 with fail
 generalize w.alloc (.cells l.toArray 61)=W at *
 have z0:=hb.lt
 have z1:=(hb.cel.2 20 _ h20).1
 have z2:=(hb.cel.2 21 _ h21).1
 go_wp2
 go_ret
 exact⟨rfl,hg0⟩
set_option maxRecDepth 20000 in
set_option maxHeartbeats 4000000 in
theorem every_core (k:Nat) (hk22:22=k) (cs:List CM) (v:Value) (w:World) (h:TrR w v cs) (hn64:cs.length≤64)
  (HS:Hid (∀ c∈cs,∀ w',Calls Tryz.prog 98 #[.agg c.cells.toArray] w' fun e w''=>e=.returned (.bool true)∧Gr w' w'')) :
  Calls Tryz.prog 97 #[v,.func (.func 98) #[] #[]] w fun e w'=>e=.returned (.bool true)∧Gr w w':=by
 have aE:∀ w,(isAgg 61).run Tryz.prog w=.ok true w:=Tryz.isAgg61
 have zE:∀ w,(Go.sizeOf 61).run Tryz.prog w=.ok k w:=fun w=>by rw [← hk22];exact Tryz.sizeOf61 w
 replace hk22:=Lib.hid hk22
 obtain⟨a,cap,rfl,ha⟩:=h.shape
 have hch:=h.ch
 clear h
 replace ha:=Lib.hid ha
 replace hch:=Lib.hid hch
 go_enter Tryz.func97,Tryz.ntmps97
 go_wp2
 go_loopw [9] (fun i wr=>∃ j:Nat,j≤cs.length∧i=.int .i64 j∧Gr w wr) (fun i _=>cs.length - (RowKit.intOf i).toNat)
 case atStart=>exact⟨0,Nat.zero_le _,rfl,Gr.refl _⟩
 case round=>
  obtain⟨j,hj,rfl,hg⟩:=hrel
  by_cases c1:j<cs.length
  ·have q1:decide ((j:Int)<(cs.length:Int))=true:=decide_eq_true (by omega)
   rcases ha.out with ha2 | ⟨b,o,rfl,hb,hc⟩
   ·omega
   have hx1:b<wr.heap.size:=Nat.lt_of_lt_of_le hb hg.size
   have hcell:∀ (x:Nat) (u:Value),cs[j].cells[x]?=some u→wr.cell? ⟨b,o+j * 22+x,none⟩=some u:=fun x u hu=>(hg.cells.1 b _ hb).trans (hc j c1 x u hu)
   have hone:=(hch.out _ (List.getElem_mem c1)).one
   have HSj:=HS.out _ (List.getElem_mem c1)
   generalize cs[j]=m at hcell hone HSj
   obtain⟨l,hml⟩:∃ l,m.cells=l:=⟨_,rfl⟩
   have hlk:l.length=k:=by rw [← hml,← hk22.out];rfl
   rw [hml] at hcell hone HSj
   have la:Sem.run Tryz.prog (loadCellsFrom ⟨b,o+j * k,none⟩ 0 k #[]) wr=.ok l.toArray wr:=by rw [show j * k=j * 22 by rw [← hk22.out]];exact ld_row hlk hcell
   have st:Sem.run Tryz.prog (storeCells ⟨wr.heap.size,0,none⟩ l 0) (wr.alloc (.cells #[.int .i64 0,.int .i64 0,.int .i64 0,.string ⟨#[]⟩,.int .i64 0,.int .i64 0,.int .i64 0,.int .i64 0,.bool false,.int .i64 0,.string ⟨#[]⟩,.int .i64 0,.int .i64 0,.int .i64 0,.int .i64 0,.bool false,.int .i64 0,.int .i64 0,.int .i64 0,.string ⟨#[]⟩,.int .i64 0,.slice none 0 0] 61))=.ok () (wr.alloc (.cells l.toArray 61)):=st_new wr _ _ l (by rw [hlk,← hk22.out];exact infoClip) (by rw [hlk,← hk22.out];rfl) hone
   have hbx:=Blk.new wr l 61
   have lb:=ldB hlk hbx
   have hbl:=hbx.lt
   have HSj:=Lib.hid HSj
   clear hc hcell
   go_wp2_with (go_at_call 98;(with_reducible refine (HSj.out _).mono ?_);rintro e w2 ⟨rfl,hg2⟩)
   go_roundw
   case rel=>exact⟨j+1,by omega,by go_num,(hg.alloc _).trans hg2⟩
   case measure=>simp [RowKit.intOf];omega
  ·have q1:decide ((j:Int)<(cs.length:Int))=false:=decide_eq_false (by omega)
   go_wp2
   go_ret
   exact⟨rfl,hg⟩
theorem size16_ok (w:World):Calls Tryz.prog 96 #[.int .i64 16,.int .i64 64] w fun e w'=>e=.returned (.bool true)∧Gr w w':=by
 go_enter Tryz.func96,Tryz.ntmps96
 go_wp2
 go_ret
 first | exact⟨rfl,Gr.refl _⟩ | exact Gr.refl _
set_option maxRecDepth 20000 in
set_option maxHeartbeats 8000000 in
theorem seq_core (TB:Nat) (tv:Value) (w:World) (hT:Blk w TB 28 [tv]) (HN:Hid (∀ w',Calls Tryz.prog 58 #[.string ⟨#[115]⟩] w' fun e w''=>e=.returned (.bool true)∧Gr w' w''))
  (HQ:Hid (∀ w',Calls Tryz.prog 94 #[.slice none 0 0] w' fun e w''=>e=.returned (.bool true)∧Gr w' w''))
  (HV:Hid (∀ w',Gr w w'→Calls Tryz.prog 34 #[tv] w' fun e w''=>e=.returned (.bool true)∧Gr w' w''))
  (HE:Hid (∀ w',Gr w w'→Calls Tryz.prog 97 #[tv,.func (.func 98) #[] #[]] w' fun e w''=>e=.returned (.bool true)∧Gr w' w'')) :
  Calls Tryz.prog 68 #[.agg (seqC TB).toArray] w fun e w'=>e=.returned (.bool false)∧Gr w w':=by
 have HR:Hid (∀ w',Calls Tryz.prog 91 #[.agg #[.int .i64 25,.int .i64 1]] w' fun e w''=>e=.returned (.bool true)∧Gr w' w''):=Lib.hid fun w'=>rate_25 w'
 have HZ:Hid (∀ w',Calls Tryz.prog 96 #[.int .i64 16,.int .i64 64] w' fun e w''=>e=.returned (.bool true)∧Gr w' w''):=Lib.hid fun w'=>size16_ok w'
 have HH:Hid (∀ w',Calls Tryz.prog 93 #[.int .i64 0] w' fun e w''=>e=.returned (.bool true)∧Gr w' w''):=Lib.hid fun w'=>chan_zero w'
 have hb:=Blk.new w (seqC TB) 73
 have hg0:Gr w (w.alloc (.cells (seqC TB).toArray 73)):=(Gr.refl w).alloc _
 unfold seqC at *
 go_enter Tryz.func68,Tryz.ntmps68
 go_upto_region 1 with fail
 generalize w.alloc (.cells #[.string ⟨#[115]⟩,.int .i64 25,.int .i64 1,.int .i64 16,.int .i64 16,.slice (some ⟨TB,0,none⟩) 1 1,.slice none 0 0,.slice none 0 0,.int .i64 0] 73)=W at *
 have z:=hb.lt
 have z0:=(hb.cel.2 0 _ rfl).1
 go_upto_region 3 with (first
  | (go_at_call 58;(with_reducible refine (HN.out _).mono ?_);rintro e w1 ⟨rfl,hg1⟩;have hb1:=hb.gr hg1;have a0:=hb1.lt;have a1:=(hb1.cel.2 1 _ rfl).1;have a2:=(hb1.cel.2 2 _ rfl).1)
  | (go_at_call 91;(with_reducible refine (HR.out _).mono ?_);rintro e w2 ⟨rfl,hg2⟩;have hb2:=hb1.gr hg2;have b0:=hb2.lt;have b3:=(hb2.cel.2 3 _ rfl).1)
  | (go_at_call 96;(with_reducible refine (HZ.out w2).mono ?_);rintro e w3 ⟨rfl,hg3⟩;have hb3:=hb2.gr hg3;have c0:=hb3.lt;have c4:=(hb3.cel.2 4 _ rfl).1)
  | (go_at_call 96;(with_reducible refine (HZ.out w3).mono ?_);rintro e w4 ⟨rfl,hg4⟩;have hb4:=hb3.gr hg4;have d0:=hb4.lt;have d8:=(hb4.cel.2 8 _ rfl).1)
  | (go_at_call 93;(with_reducible refine (HH.out _).mono ?_);rintro e w5 ⟨rfl,hg5⟩;have hb5:=hb4.gr hg5;have e0:=hb5.lt;have e7:=(hb5.cel.2 7 _ rfl).1)
  | (go_at_call 94;(with_reducible refine (HQ.out _).mono ?_);rintro e w6 ⟨rfl,hg6⟩;have hb6:=hb5.gr hg6))
 have hgw:=(((((hg0.trans hg1).trans hg2).trans hg3).trans hg4).trans hg5).trans hg6
 clear hb hb1 hb2 hb3 hb4 hb5 hg0 hg1 hg2 hg3 hg4 hg5 hg6 z z0 a0 a1 a2 b0 b3 c0 c4 d0 d8 e0 e7
 have z:=hb6.lt
 have z5:=(hb6.cel.2 5 _ rfl).1
 go_wp2
 clear z z5
 go_loopw [44] (fun v wr=>∃ j:Nat,j≤1∧v=.int .i64 j∧Gr w6 wr) (fun v _=>1 - (RowKit.intOf v).toNat)
 case atStart=>exact⟨0,by omega,rfl,Gr.refl _⟩
 case round=>
  obtain⟨j,hj,rfl,hg⟩:=hrel
  rcases (show j=0∨j=1 by omega) with rfl | rfl
  ·have hT2:=(hT.gr hgw).gr hg
   have y:=hT2.lt
   have y0:=(hT2.cel.2 0 _ rfl).1
   go_wp2_with (first
    | (go_at_call 34;(with_reducible refine (HV.out _ (hgw.trans hg)).mono ?_);rintro e w7 ⟨rfl,hg7⟩)
    | (go_at_call 97;(with_reducible refine (HE.out _ ((hgw.trans hg).trans hg7)).mono ?_);rintro e w8 ⟨rfl,hg8⟩))
   exact⟨⟨1,by omega,rfl,(hg.trans hg7).trans hg8⟩,by simp [RowKit.intOf]⟩
  ·have hb7:=hb6.gr hg
   have z:=hb7.lt
   have z6:=(hb7.cel.2 6 _ rfl).1
   go_wp2
   go_loopw [60] (fun v wx=>v=.int .i64 0∧wr=wx) (fun v _=>0)
   case atStart=>exact⟨rfl,rfl⟩
   case round=>
    obtain⟨rfl,rfl⟩:=hrel
    go_wp2
    go_ret
    exact⟨rfl,hgw.trans hg⟩
end Go.Proofs.YtnginfangeikpaaGreatDoor

namespace Go.Proofs.YtnginfangeikpaaGreatDoor
open Go.RowKit Go.Lib
set_option linter.unusedSimpArgs false
set_option linter.unusedVariables false
set_option maxRecDepth 20000 in
set_option maxHeartbeats 8000000 in
theorem large_core (k:Nat) (hk:141=k) (MB mc SB TB:Nat) (mls:Nat→List Value) (tv:Value) (w:World) (hP0:PrjR w MB mls SB TB tv) :
  Calls Tryz.prog 64 #[.agg (prjV MB mc SB).toArray] w fun e w'=>e=.returned (.bool false)∧Gr w w':=by
 have aE:∀ w,(isAgg 70).run Tryz.prog w=.ok true w:=Tryz.isAgg70
 have zE:∀ w,(Go.sizeOf 70).run Tryz.prog w=.ok k w:=fun w=>by rw [← hk];exact Tryz.sizeOf70 w
 have hk0:¬ k=0:=by omega
 replace hk:=Lib.hid hk
 have hP:=Blk.new w (prjV MB mc SB) 35
 have g1:=(Gr.refl w).alloc (.cells (prjV MB mc SB).toArray 35)
 have hmed:=Lib.hid hP0.med
 unfold prjV at *
 go_enter Tryz.func64,Tryz.ntmps64
 go_upto_region 1 with fail
 generalize w.alloc (.cells #[.slice (some ⟨MB,0,none⟩) 3 mc,.slice (some ⟨SB,0,none⟩) 1 1] 35)=W at *
 generalize w.heap.size=PB at *
 have p0:=hP.lt
 have p1:=(hP.cel.2 0 _ rfl).1
 have p2:=(hP.cel.2 1 _ rfl).1
 go_wp2
 clear p0 p1 p2
 go_loopw [20] (fun v wr=>∃ jj:Nat,jj≤3∧v=.int .i64 jj∧Gr W wr) (fun v _=>3 - (RowKit.intOf v).toNat)
 case atStart=>exact⟨0,by omega,rfl,Gr.refl _⟩
 case round=>
  obtain⟨jj,hjj,rfl,hg⟩:=hrel
  by_cases c1:jj<3
  ·have q1:decide ((jj:Int)<3)=true:=decide_eq_true (by omega)
   have hPrj:=hP0.gr (g1.trans hg)
   have hcell:=hPrj.cel jj c1
   have hm:=hmed.out jj c1
   generalize mls jj=ml at *
   have hlk:ml.length=k:=hm.n.trans hk.out
   have la:Sem.run Tryz.prog (loadCellsFrom ⟨MB,jj * k,none⟩ 0 k #[]) wr=.ok ml.toArray wr:=by rw [show jj * k=jj * 141 by rw [← hk.out]];exact ld_row hlk hcell
   have st:=st_fresh (P:=Tryz.prog) wr 70 Tryz.zeroCells70 ml (by rw [hm.n];exact infoMed1) (by rw [hm.n];kernel_rfl) hm.one
   have hbx:=Blk.new wr ml 70
   have hgx:Gr wr (wr.alloc (.cells ml.toArray 70)):=(Gr.refl wr).alloc _
   have hbr:=hPrj.lt
   have y:=hbx.lt
   have y1:=(hbx.cel.2 140 _ hm.c140).1
   clear hPrj hcell
   go_wp2
   go_roundw
   case rel=>exact⟨jj+1,by omega,by go_num,hg.trans hgx⟩
   case measure=>simp [RowKit.intOf];omega
  ·have q1:decide ((jj:Int)<3)=false:=decide_eq_false (by omega)
   obtain rfl:jj=3:=by omega
   clear q1
   have e3:((3:Nat):Int)=3:=rfl
   rw [e3]
   clear e3
   have hP2:=hP.gr hg
   have p0:=hP2.lt
   have p1:=(hP2.cel.2 1 _ rfl).1
   go_wp2
   go_loopw [32] (fun v wx=>(v=.int .i64 0∧wr=wx)∨(v=.int .i64 1∧Gr W wx)) (fun v _=>1 - (RowKit.intOf v).toNat)
   case atStart=>exact .inl ⟨rfl,rfl⟩
   case round=>
    rcases hrel with ⟨rfl,rfl⟩ | ⟨rfl,hgx⟩
    ·have hS:=(hP0.gr (g1.trans hg)).seq
     unfold seqC at hS
     have x:=hS.lt
     have x0:=(hS.cel.2 0 _ rfl).1
     have x1:=(hS.cel.2 1 _ rfl).1
     have x2:=(hS.cel.2 2 _ rfl).1
     have x3:=(hS.cel.2 3 _ rfl).1
     have x4:=(hS.cel.2 4 _ rfl).1
     have x5:=(hS.cel.2 5 _ rfl).1
     have x6:=(hS.cel.2 6 _ rfl).1
     have x7:=(hS.cel.2 7 _ rfl).1
     have x8:=(hS.cel.2 8 _ rfl).1
     go_upto_region 12 with fail
     have hX:=Blk.new wr [.string ⟨#[115]⟩,.int .i64 25,.int .i64 1,.int .i64 16,.int .i64 16,.slice (some ⟨TB,0,none⟩) 1 1,.slice none 0 0,.slice none 0 0,.int .i64 0] 73
     have gA:=(Gr.refl wr).alloc (.cells #[.string ⟨#[115]⟩,.int .i64 25,.int .i64 1,.int .i64 16,.int .i64 16,.slice (some ⟨TB,0,none⟩) 1 1,.slice none 0 0,.slice none 0 0,.int .i64 0] 73)
     clear hS x x0 x1 x2 x3 x4 x5 x6 x7 x8
     generalize wr.alloc (.cells #[.string ⟨#[115]⟩,.int .i64 25,.int .i64 1,.int .i64 16,.int .i64 16,.slice (some ⟨TB,0,none⟩) 1 1,.slice none 0 0,.slice none 0 0,.int .i64 0] 73)=W3 at *
     have x:=hX.lt
     have x5:=(hX.cel.2 5 _ rfl).1
     have x6:=(hX.cel.2 6 _ rfl).1
     have x7:=(hX.cel.2 7 _ rfl).1
     go_wp2
     go_roundw
     case rel=>exact .inr ⟨rfl,hg.trans gA⟩
     case measure=>simp [RowKit.intOf]
    ·go_wp2
     go_ret
     exact⟨rfl,g1.trans hgx⟩
end Go.Proofs.YtnginfangeikpaaGreatDoor
