/-
  Contract of Valid of package timeline at the law's project, over its callees' contracts.
  Conditions: the project lies in memory.
-/
import Derived.Test.YtnginfangeikpaaGreatDoorSiG
import Derived.Test.YtnginfangeikpaaGreatDoorShW
import Derived.Shelf.SlIter.Collect
import Derived.Test.YtnginfangeikpaaGreatDoorProg
import Derived.Test.YtnginfangeikpaaGreatDoorKit
namespace Go.Proofs.YtnginfangeikpaaGreatDoor
open Go.RowKit Go.Lib
set_option linter.unusedSimpArgs false
set_option linter.unusedVariables false
theorem tvalidD_idle (p:Addr) (w:World) :
  CallsD Tryz.prog 63 #[.pointer (some p)] .returning w fun e u' w'=>e=.returned (.tuple #[])∧u'=.returning∧w'=w:=by
 refine callsD_of_wpS Tryz.func63 rfl fun c₀ cs hu=>?_
 apply wpS_seq
 apply wpS_region
 simp [wpOpsS,go_sem,recoverD,hu,Tryz.ntmps63,Exit.thenS]
 refine wpS_cond (t:=false) (by simp [Act.eval,Array.replicate]) ?_
 simp only [Bool.false_eq_true,if_false]
 refine wpS_of_wp (wp_skip ?_)
 cases c₀
 simp_all [bodyPostS,results,Tryz.results63]
set_option maxRecDepth 20000 in
set_option maxHeartbeats 8000000 in
theorem tvalid_core (k9:Nat) (hk9:9=k9) (MB mc SB TB:Nat) (mls:Nat→List Value) (tv:Value) (w:World) (hP0:PrjR w MB mls SB TB tv) (D1 D2:DataW Value) (hD1:Maps.size D1=3) (hD2:Maps.size D2=1)
  (HL:Hid (∀ w',Gr w w'→Calls Tryz.prog 64 #[.agg #[.slice (some ⟨MB,0,none⟩) 3 mc,.slice (some ⟨SB,0,none⟩) 1 1]] w' fun e w''=>e=.returned (.bool false)∧Gr w' w''))
  (HM:Hid (∀ w',Gr w w'→Calls Tryz.prog 65 #[.slice (some ⟨MB,0,none⟩) 3 mc,.func (.func 66) #[] #[]] w' fun e w''=>e=.returned (.bool false)∧Gr w' w''))
  (HS:Hid (∀ w',Gr w w'→Calls Tryz.prog 67 #[.slice (some ⟨SB,0,none⟩) 1 1,.func (.func 68) #[] #[]] w' fun e w''=>e=.returned (.bool false)∧Gr w' w''))
  (HC:Hid (∀ w',Gr w w'→Calls Tryz.prog 69 #[.agg #[.slice (some ⟨MB,0,none⟩) 3 mc,.slice (some ⟨SB,0,none⟩) 1 1]] w' fun e w''=>∃ (b1 b2 n1 n2:Nat),e=.returned (.agg #[.map (some b1),.map (some b2)])∧Gr w' w''∧MapO w'' b1 n1 D1∧MapO w'' b2 n2 D2 ∧
   Hid (∀ w3,Gr w'' w3→Calls Tryz.prog 70 #[.agg #[.map (some b1),.map (some b2)],.agg (seqC TB).toArray] w3 fun e w4=>e=.returned (.bool true)∧Gr w3 w4) ∧
   Hid (∀ w3 kb,Gr w'' w3→MapO w3 kb 0 (.map [])→w''.heap.size≤kb→Calls Tryz.prog 71 #[.agg #[.map (some b1),.map (some b2)],.string ⟨#[115]⟩,.map (some kb)] w3 fun e w'=>e=.returned (.int .i64 1)∧(∃ w1 w2 w4,Gr w3 w1∧w1.grownBy w2 (some kb)∧Gr w2 w4∧w4.grownBy w' (some kb))∧∃ D,MapO w' kb 2 D∧D.atKey (.string [115]) (.held (.int .i64 0))=.held (.int .i64 1)))) :
  Calls Tryz.prog 39 #[.agg #[.slice (some ⟨MB,0,none⟩) 3 mc,.slice (some ⟨SB,0,none⟩) 1 1]] w fun e w'=>e=.returned (.int .i64 0)∧Gr w w':=by
 have hmf:=hmf_any Tryz.prog
 have hmm:=@run_makeMap Tryz.prog
 have aS:∀ w,(isAgg 73).run Tryz.prog w=.ok true w:=Tryz.isAgg73
 have zS:∀ w,(Go.sizeOf 73).run Tryz.prog w=.ok k9 w:=fun w=>by rw [← hk9];exact Tryz.sizeOf73 w
 obtain⟨L,hL⟩:∃ L,seqC TB=L:=⟨_,rfl⟩
 have hL9:L.length=9:=by rw [← hL];rfl
 have hLo:∀ v∈L,v.oneCell'=true:=by rw [← hL];exact seqC_one _
 have hLk:L.length=k9:=by rw [hL9,hk9]
 have hL0:L[0]?=some (.string ⟨#[115]⟩):=by rw [← hL];rfl
 have hS0:=hP0.seq
 rw [hL] at hS0 HC
 clear hL
 replace hk9:=Lib.hid hk9
 have stN:∀ W:World,Sem.run Tryz.prog (storeCells ⟨W.heap.size,0,none⟩ L 0) (W.alloc (.cells #[.string ⟨#[]⟩,.int .i64 0,.int .i64 0,.int .i64 0,.int .i64 0,.slice none 0 0,.slice none 0 0,.slice none 0 0,.int .i64 0] 73))=.ok () (W.alloc (.cells L.toArray 73)):=fun W=>st_new W 73 #[.string ⟨#[]⟩,.int .i64 0,.int .i64 0,.int .i64 0,.int .i64 0,.slice none 0 0,.slice none 0 0,.slice none 0 0,.int .i64 0] L (by rw [hL9];exact infoSeqs) (by rw [hL9];rfl) hLo (P:=Tryz.prog)
 replace hL9:=Lib.hid hL9
 have hp0:=(Blk.new w [.slice (some ⟨MB,0,none⟩) 3 mc,.slice (some ⟨SB,0,none⟩) 1 1] 35).gr ((Gr.refl _).alloc (.cells #[.int .i64 0] 29))
 have hz0:=Blk.new (w.alloc (.cells #[.slice (some ⟨MB,0,none⟩) 3 mc,.slice (some ⟨SB,0,none⟩) 1 1] 35)) [.int .i64 0] 29
 rw [show (w.alloc (.cells #[.slice (some ⟨MB,0,none⟩) 3 mc,.slice (some ⟨SB,0,none⟩) 1 1] 35)).heap.size=w.heap.size+1 by simp] at hz0
 have hg0:Gr w ((w.alloc (.cells #[.slice (some ⟨MB,0,none⟩) 3 mc,.slice (some ⟨SB,0,none⟩) 1 1] 35)).alloc (.cells #[.int .i64 0] 29)):=((Gr.refl w).alloc _).alloc _
 go_enter_defers Tryz.func39,Tryz.ntmps39
 go_upto_region 2 with fail
 generalize (w.alloc (.cells #[.slice (some ⟨MB,0,none⟩) 3 mc,.slice (some ⟨SB,0,none⟩) 1 1] 35)).alloc (.cells #[.int .i64 0] 29)=W0 at *
 have p0:=hp0.lt
 have p1:=(hp0.cel.2 0 _ rfl).1
 have p2:=(hp0.cel.2 1 _ rfl).1
 go_upto_region 7 with (first
  | (go_at_call 64;(with_reducible refine (HL.out _ hg0).mono ?_);rintro e w1 ⟨rfl,hg1⟩;have hgw1:=hg0.trans hg1;have hp1:=hp0.gr hg1;have a0:=hp1.lt;have a1:=(hp1.cel.2 0 _ rfl).1)
  | (go_at_call 65;(with_reducible refine (HM.out _ hgw1).mono ?_);rintro e w2 ⟨rfl,hg2⟩;have hgw2:=hgw1.trans hg2;have hp2:=hp1.gr hg2;have f0:=hp2.lt;have f2:=(hp2.cel.2 1 _ rfl).1)
  | (go_at_call 67;(with_reducible refine (HS.out _ hgw2).mono ?_);rintro e w3 ⟨rfl,hg3⟩;have hgw3:=hgw2.trans hg3;have hp3:=hp2.gr hg3;have c0:=hp3.lt;have c1:=(hp3.cel.2 0 _ rfl).1;have c2:=(hp3.cel.2 1 _ rfl).1)
  | (go_at_call 69;(with_reducible refine (HC.out _ hgw3).mono ?_);rintro e w4 ⟨b1,b2,n1,n2,rfl,hg4,hM1,hM2,HCo,HCh⟩))
 have hc4:=Blk.new w4 [.map (some b1),.map (some b2)] 140
 have hgA:Gr w4 (w4.alloc (.cells #[.map (some b1),.map (some b2)] 140)):=(Gr.refl w4).alloc _
 have hg45:Hid (Gr w4 (w4.alloc (.cells #[.map (some b1),.map (some b2)] 140))):=Lib.hid hgA
 have hg5:=(hgw3.trans hg4).trans hgA
 have hp5:=(hp3.gr hg4).gr hgA
 have hz5:=((((hz0.gr hg1).gr hg2).gr hg3).gr hg4).gr hgA
 have hl1:=World.ownsMap.len (MapO.gr hgA hM1) Tryz.underlying137 3
 have hl2:=World.ownsMap.len (MapO.gr hgA hM2) Tryz.underlying138 3
 rw [hD1] at hl1
 rw [hD2] at hl2
 have hw4:Hid (w.heap.size+1<w4.heap.size):=Lib.hid ((((hz0.gr hg1).gr hg2).gr hg3).gr hg4).lt
 clear a0 a1 f0 f2 c0 c1 c2 p0 p1 p2 hp0 hz0 hg0 hg1 hg2 hg3 hg4 hp1 hp2 hp3 hgw1 hgw2 hgw3 hgA hM1 hM2 HL HM HS HC hD1 hD2
 generalize w4.alloc (.cells #[.map (some b1),.map (some b2)] 140)=W5 at *
 obtain⟨CB,hCB⟩:∃ CB,w4.heap.size=CB:=⟨_,rfl⟩
 rw [hCB] at hc4 hw4
 rw [hCB]
 replace hCB:=Lib.hid hCB
 have p0:=hp5.lt
 have p1:=(hp5.cel.2 0 _ rfl).1
 have p2:=(hp5.cel.2 1 _ rfl).1
 have c0:=hc4.lt
 have c1:=(hc4.cel.2 0 _ rfl).1
 have c2:=(hc4.cel.2 1 _ rfl).1
 go_wp2
 go_loopw [43] (fun v wx=>(v=.int .i64 0∧W5=wx)∨(v=.int .i64 1∧Gr W5 wx)) (fun v _=>1 - (RowKit.intOf v).toNat)
 case atStart=>exact .inl ⟨rfl,rfl⟩
 case round=>
  clear p0 p1 p2 c0 c1 c2 hl1 hl2
  rcases hrel with ⟨rfl,rfl⟩ | ⟨rfl,hgx⟩
  ·have hS1:=hS0.gr hg5
   have la:=ldB hLk hS1
   have hsl:=hS1.lt
   have st:=stN W5
   have hX:=Blk.new W5 L 73
   have gA:=(Gr.refl W5).alloc (.cells L.toArray 73)
   go_upto_region 12 with fail
   clear la st
   have hcx:=hc4.gr gA
   generalize W5.alloc (.cells L.toArray 73)=W6 at *
   have x:=hX.lt
   have lb:=ldB hLk hX
   have c0:=hcx.lt
   have c1:=(hcx.cel.2 0 _ rfl).1
   have c2:=(hcx.cel.2 1 _ rfl).1
   have HCo1:=Lib.hid (HCo.out W6 (hg45.out.trans gA))
   go_wp2_with (go_at_call 70;(with_reducible refine (HCo1.out).mono ?_);rintro e w7 ⟨rfl,hg7⟩)
   go_roundw
   case rel=>exact .inr ⟨rfl,gA.trans hg7⟩
   case measure=>simp [RowKit.intOf]
  ·have hgM:Gr wr (wr.alloc (.map #[] 0)):=(Gr.refl wr).alloc _
   have hKM:=MapO.new wr
   have hgW:=(hg5.trans hgx).trans hgM
   have hp6:=(hp5.gr hgx).gr hgM
   have hz6:=(hz5.gr hgx).gr hgM
   have hc6:=(hc4.gr hgx).gr hgM
   have hg46:=Lib.hid ((hg45.out.trans hgx).trans hgM)
   have hkb:Hid (CB<wr.heap.size):=Lib.hid ((hc4.gr hgx).lt)
   go_upto_region 16 with fail
   clear hgM hgx
   generalize wr.alloc (.map #[] 0)=W6 at *
   generalize wr.heap.size=kb at *
   have hp6c:Blk W6 w.heap.size 35 [.slice (some ⟨MB,0,none⟩) 3 mc,.slice (some ⟨SB,0,none⟩) 1 1]:=hp6
   have p0:=hp6.lt
   have p2:=(hp6.cel.2 1 _ rfl).1
   go_wp2
   go_loopw [56] (fun v wx=>(v=.int .i64 0∧W6=wx)∨(v=.int .i64 1∧Gr w wx∧Blk wx w.heap.size 35 [.slice (some ⟨MB,0,none⟩) 3 mc,.slice (some ⟨SB,0,none⟩) 1 1]∧Blk wx (w.heap.size+1) 29 [.int .i64 0]∧∃ D,MapO wx kb 2 D∧D.atKey (.string [115]) (.held (.int .i64 0))=.held (.int .i64 1))) (fun v _=>1 - (RowKit.intOf v).toNat)
   case atStart=>exact .inl ⟨rfl,rfl⟩
   case round=>
    clear p0 p2
    rcases hrel with ⟨rfl,rfl⟩ | ⟨rfl,hgy,hpy,hzy,D,hKy,hat⟩
    ·have hS1:=hS0.gr hgW
     have la:=ldB hLk hS1
     have hsl:=hS1.lt
     have st:=stN W6
     have hX:=Blk.new W6 L 73
     have gA:=(Gr.refl W6).alloc (.cells L.toArray 73)
     go_upto_region 19 with fail
     clear la st
     have hcx:=hc6.gr gA
     have hKx:=hKM.gr gA
     have hpx:=hp6.gr gA
     have hzx:=hz6.gr gA
     have hgX:=hgW.trans gA
     have hg4X:=Lib.hid (hg46.out.trans gA)
     generalize W6.alloc (.cells L.toArray 73)=W7 at *
     have x:=hX.lt
     have x0:=(hX.cel.2 0 _ hL0).1
     have c0:=hcx.lt
     have c1:=(hcx.cel.2 0 _ rfl).1
     have c2:=(hcx.cel.2 1 _ rfl).1
     have hCk:w4.heap.size≤kb:=by rw [hCB.out];exact Nat.le_of_lt hkb.out
     have HCh1:=Lib.hid (HCh.out W7 kb hg4X.out hKx hCk)
     clear hCk
     go_wp2_with (go_at_call 71;(with_reducible refine (HCh1.out).mono ?_);rintro e w8 ⟨rfl,⟨u1,u2,u3,g1,g2,g3,g4⟩,D,hKD,hat⟩)
     have ne:∀ b,b<kb→(some kb:Option Nat)≠some b:=fun b hb e=>by injection e with e;omega
     have e1:=hkb.out
     have e2:=hw4.out
     have l1:=hp6.lt
     have r1:Gr w w8:=((((hgX.trans g1).grown g2 (fun k hk=>by injection hk with hk;omega)).trans g3)).grown g4 (fun k hk=>by injection hk with hk;omega)
     have r2:=(((hpx.gr g1).grown g2 (ne _ (by omega))).gr g3).grown g4 (ne _ (by omega))
     have r3:=(((hzx.gr g1).grown g2 (ne _ (by omega))).gr g3).grown g4 (ne _ (by omega))
     go_roundw
     case rel=>exact .inr ⟨rfl,r1,r2,r3,D,hKD,hat⟩
     case measure=>simp [RowKit.intOf]
    ·have p0:=hpy.lt
     have p2:=(hpy.cel.2 1 _ rfl).1
     go_wp2
     go_loopw [70] (fun v wx=>(v=.int .i64 0∧wr=wx)∨(v=.int .i64 1∧Gr wr wx)) (fun v _=>1 - (RowKit.intOf v).toNat)
     case atStart=>exact .inl ⟨rfl,rfl⟩
     case round=>
      clear p0 p2
      rcases hrel with ⟨rfl,rfl⟩ | ⟨rfl,hgv⟩
      ·have hS1:=hS0.gr hgy
       have la:=ldB hLk hS1
       have hsl:=hS1.lt
       have st:=stN wr
       have hX:=Blk.new wr L 73
       have gA:=(Gr.refl wr).alloc (.cells L.toArray 73)
       go_upto_region 25 with fail
       clear la st
       have hKx:=hKy.gr gA
       generalize wr.alloc (.cells L.toArray 73)=W7 at *
       have x:=hX.lt
       have x0:=(hX.cel.2 0 _ hL0).1
       have hlk:=MapO.look hKx Tryz.underlying142 (zeroInt _) (s:=⟨#[115]⟩) (by unfold maxLen;decide) hat
       go_wp2
       go_roundw
       case rel=>exact .inr ⟨rfl,gA⟩
       case measure=>simp [RowKit.intOf]
      ·have hz7:=hzy.gr hgv
       have z0:=hz7.lt
       obtain⟨z1,z2⟩:=hz7.cel.one
       have hg9:=hgy.trans hgv
       clear hgy hgv hp5 hz5 hc4 hc6
       go_wp2
       refine leaves_cons (f:=63) (args:=#[.pointer (some ⟨w.heap.size+1,0,none⟩)]) (by simp) (by simp [go_sem]) ?_
       refine (tvalidD_idle _ _).mono ?_
       rintro e u' w'' ⟨rfl,rfl,rfl⟩
       simp [Leaves,settle,results,Tryz.results39,go_sem,z0,z1]
       exact hg9.setCell (by simp) _
end Go.Proofs.YtnginfangeikpaaGreatDoor

namespace Go.Proofs
open Go.Shelf
def Tryz.keysA_ren:Go.Shelf.Ren:=⟨fun | 7=>124 | 10=>141 | n=>n,fun | 23=>194 | 26=>9 | 3=>4 | 28=>197 | 0=>0 | 27=>196 | 33=>90 | 4=>4 | n=>n,fun | n=>n⟩
theorem Tryz.keysA:Go.Proofs.SlLaysZ.n7 Tryz.prog Tryz.keysA_ren:={
 mixed:=by kernel_rfl
 f7:=⟨Tryz.f124.name,by decide,Tryz.func124.trans (congrArg some (by kernel_rfl))⟩
 f10:=⟨Tryz.f141.name,by decide,Tryz.func141.trans (congrArg some (by kernel_rfl))⟩
 t0:=Tryz.underlying0
 a0:=Tryz.isAgg0
 z0:=Tryz.sizeOf0
 v0:=Tryz.zeroValue0
 t4:=Tryz.underlying4
 a4:=Tryz.isAgg4
 z4:=Tryz.sizeOf4
 v4:=Tryz.zeroValue4
 t23:=Tryz.underlying194
 a23:=Tryz.isAgg194
 z23:=Tryz.sizeOf194
 v23:=Tryz.zeroValue194
 t26:=Tryz.underlying9
 a26:=Tryz.isAgg9
 z26:=Tryz.sizeOf9
 v26:=Tryz.zeroValue9
 t27:=Tryz.underlying196
 a27:=Tryz.isAgg196
 z27:=Tryz.sizeOf196
 v27:=Tryz.zeroValue196
 t28:=Tryz.underlying197
 a28:=Tryz.isAgg197
 z28:=Tryz.sizeOf197
 v28:=Tryz.zeroValue197
 t33:=Tryz.underlying90
 a33:=Tryz.isAgg90
 z33:=Tryz.sizeOf90
 v33:=Tryz.zeroValue90 }
def Tryz.collA_ren:Go.Shelf.Ren:=⟨fun | 8=>139 | 11=>156 | n=>n,fun | 26=>9 | 28=>197 | 24=>52 | 0=>0 | 33=>90 | 4=>4 | n=>n,fun | n=>n⟩
theorem Tryz.collA:Go.Proofs.SlLaysZ.n8 Tryz.prog Tryz.collA_ren:={
 mixed:=by kernel_rfl
 f8:=⟨Tryz.f139.name,by decide,Tryz.func139.trans (congrArg some (by kernel_rfl))⟩
 f11:=⟨Tryz.f156.name,by decide,Tryz.func156.trans (congrArg some (by kernel_rfl))⟩
 t0:=Tryz.underlying0
 a0:=Tryz.isAgg0
 z0:=Tryz.sizeOf0
 v0:=Tryz.zeroValue0
 t24:=Tryz.underlying52
 a24:=Tryz.isAgg52
 z24:=Tryz.sizeOf52
 v24:=Tryz.zeroValue52
 t26:=Tryz.underlying9
 a26:=Tryz.isAgg9
 z26:=Tryz.sizeOf9
 v26:=Tryz.zeroValue9
 t28:=Tryz.underlying197
 a28:=Tryz.isAgg197
 z28:=Tryz.sizeOf197
 v28:=Tryz.zeroValue197
 i26:=by kernel_rfl }
end Go.Proofs

namespace Go.Proofs.YtnginfangeikpaaGreatDoor
open Go.RowKit Go.Lib
set_option linter.unusedSimpArgs false
set_option linter.unusedVariables false
set_option maxRecDepth 20000 in
theorem len64_0 (w:World):Calls Tryz.prog 160 #[.int .u64 0] w fun e w'=>e=.returned (.int .i64 0)∧Gr w w':=by
 go_enter Tryz.func160,Tryz.ntmps160
 go_wp2
 go_ret
 exact⟨by kernel_rfl,(by repeat (first | with_reducible exact Gr.refl _ | with_reducible assumption | refine Gr.setCell ?_ (by first | omega | (simp;done) | (simp;omega)) _ | refine Gr.alloc ?_ _ | refine Gr.drew ?_ | refine Gr.drewN ?_ _ | refine Gr.trans ?_ (by with_reducible assumption)))⟩
set_option maxRecDepth 20000 in
theorem len_0 (w:World):Calls Tryz.prog 158 #[.int .u64 0] w fun e w'=>e=.returned (.int .i64 0)∧Gr w w':=by
 have HL:=Lib.hid (len64_0 w)
 go_enter Tryz.func158,Tryz.ntmps158
 go_wp2_with (go_at_call 160;(with_reducible refine HL.out.mono ?_);rintro e w1 ⟨rfl,hg1⟩)
 go_ret
 exact⟨rfl,hg1⟩
set_option maxRecDepth 20000 in
theorem insort_none (w:World):Calls Tryz.prog 166 #[.slice none 0 0,.int .i64 0,.int .i64 0] w fun e w'=>e=.returned (.tuple #[])∧Gr w w':=by
 go_enter Tryz.func166,Tryz.ntmps166
 go_wp2
 go_loopw [6] (fun v wr=>v=.int .i64 1∧w=wr) (fun _ _=>0)
 case atStart=>exact⟨rfl,rfl⟩
 case round=>
  obtain⟨rfl,rfl⟩:=hrel
  go_wp2
  go_end0
  exact⟨rfl,(by repeat (first | with_reducible exact Gr.refl _ | with_reducible assumption | refine Gr.setCell ?_ (by first | omega | (simp;done) | (simp;omega)) _ | refine Gr.alloc ?_ _ | refine Gr.drew ?_ | refine Gr.drewN ?_ _ | refine Gr.trans ?_ (by with_reducible assumption)))⟩
set_option maxRecDepth 20000 in
set_option maxHeartbeats 1000000 in
theorem pdq_none (w:World):Calls Tryz.prog 157 #[.slice none 0 0,.int .i64 0,.int .i64 0,.int .i64 0] w fun e w'=>e=.returned (.tuple #[])∧Gr w w':=by
 have HI:=Lib.hid (insort_none w)
 go_enter Tryz.func157,Tryz.ntmps157
 go_wp2
 go_loopw [1,2] (fun a b wr=>a=.int .i64 0∧b=.int .i64 0∧w=wr) (fun _ _ _=>0)
 case atStart=>exact⟨rfl,rfl,rfl⟩
 case round=>
  obtain⟨rfl,rfl,rfl⟩:=hrel
  go_wp2_with (go_at_call 166;(with_reducible refine HI.out.mono ?_);rintro e w1 ⟨rfl,hg1⟩)
  (try simp only [Exit.inBlock,Exit.then]);refine bodyPost_ret (results_none rfl _ _ _) rfl ?_
  exact⟨rfl,hg1⟩
set_option maxRecDepth 20000 in
theorem sort_none (w:World):Calls Tryz.prog 140 #[.slice none 0 0] w fun e w'=>e=.returned (.tuple #[])∧Gr w w':=by
 have HL:=Lib.hid (len_0 w)
 have HP:Hid (∀ w',Calls Tryz.prog 157 #[.slice none 0 0,.int .i64 0,.int .i64 0,.int .i64 0] w' fun e w''=>e=.returned (.tuple #[])∧Gr w' w''):=Lib.hid pdq_none
 go_enter Tryz.func140,Tryz.ntmps140
 go_wp2_with (first
  | (go_at_call 158;(with_reducible refine HL.out.mono ?_);rintro e w1 ⟨rfl,hg1⟩)
  | (go_at_call 157;(with_reducible refine (HP.out _).mono ?_);rintro e w2 ⟨rfl,hg2⟩))
 go_end0
 exact⟨rfl,hg1.trans hg2⟩
set_option maxRecDepth 20000 in
theorem sorted_none (fv:Value) (w:World) (HC:Hid (Calls Tryz.prog 139 #[fv] w fun e w'=>e=.returned (.slice none 0 0)∧Gr w w')):Calls Tryz.prog 123 #[fv] w fun e w'=>e=.returned (.slice none 0 0)∧Gr w w':=by
 have HS:Hid (∀ w',Calls Tryz.prog 140 #[.slice none 0 0] w' fun e w''=>e=.returned (.tuple #[])∧Gr w' w''):=Lib.hid sort_none
 go_enter Tryz.func123,Tryz.ntmps123
 go_wp2_with (first
  | (go_at_call 139;(with_reducible refine HC.out.mono ?_);rintro e w1 ⟨rfl,hg1⟩)
  | (go_at_call 140;(with_reducible refine (HS.out _).mono ?_);rintro e w2 ⟨rfl,hg2⟩))
 go_ret
 exact⟨rfl,hg1.trans hg2⟩
theorem MapO.of_empty {w:World} {b:Nat} (h:w.heap[b]?=some (.map #[] 0)):MapO w b 0 (.map []):=⟨#[],0,h,⟨by simp,Go.MapKept.stamped_empty 0,by simp⟩,Nat.le_refl _,rfl⟩
set_option maxHeartbeats 1000000 in
theorem keys_none (w':World) (mb:Nat) (h:w'.heap[mb]?=some (.map #[] 0)) :
  Calls Tryz.prog 124 #[.map (some mb)] w' fun e w''=>∃ fv,e=.returned fv∧Gr w' w''∧Hid (∀ w3,Gr w'' w3→Calls Tryz.prog 123 #[fv] w3 fun e w4=>e=.returned (.slice none 0 0)∧Gr w3 w4):=by
 have cK:CallsIn Fence.wide 3 Tryz.prog 124 #[.map (some mb)] w' fun e w''=>e=.returned (.func (.func 141) #[] #[.pointer (some ⟨w'.heap.size,0,none⟩)])∧w''=w'.alloc (.cells #[.map (some mb)] 194):=AnyZ.keys_in Tryz.keysA Fence.wide 3 trivial rfl (some mb) w'
 refine (callsIn_wide.1 cK).mono ?_
 rintro e w'' ⟨rfl,rfl⟩
 have hg:Gr w' (w'.alloc (.cells #[.map (some mb)] 194)):=(Gr.refl w').alloc _
 have hm:=(Blk.new w' [.map (some mb)] 194)
 refine⟨_,rfl,hg,Lib.hid fun w3 hg3=>sorted_none _ w3 (Lib.hid ?_)⟩
 have hm3:=hm.gr hg3
 have hown:=((MapO.of_empty h).gr hg).gr hg3
 have hseq:SeqGives Fence.wide 1 Tryz.prog 141 #[.pointer (some ⟨w'.heap.size,0,none⟩)] Go.Proofs.encStr (fun ss=>ss.Perm (Go.strKeys (.map []:DataW Value))) (Maps.size (.map []:DataW Value)) w3:=
  AnyZ.keys_gives (ρ:=Tryz.keysA_ren) { Tryz.keysA with } Fence.wide 1 trivial rfl (by omega) w'.heap.size mb 0 _ w3 hm3.lt (hm3.cel.2 0 _ rfl).1 hown
 have cC:=AnyZ.collect_in Tryz.collA Fence.wide 3 trivial trivial rfl (by omega) 141 #[.pointer (some ⟨w'.heap.size,0,none⟩)] trivial (enters_of Tryz.func141 (by as_aux_lemma=>kernel_rfl) rfl) _ _ (Nat.zero_le _) (by decide) w3 hseq
 change CallsIn _ _ Tryz.prog 139 _ _ _ at cC
 refine (callsIn_wide.1 cC).mono ?_
 rintro e w4 ⟨v,ss,rfl,hS,_,hnil,hb⟩
 have hss:ss=[]:=List.Perm.eq_nil hS
 rw [hnil.2 hss]
 exact⟨rfl,hb⟩
end Go.Proofs.YtnginfangeikpaaGreatDoor

namespace Go.Proofs.YtnginfangeikpaaGreatDoor
open Go.RowKit Go.Lib
set_option linter.unusedSimpArgs false
set_option linter.unusedVariables false
structure Tape (W:World) (T:Nat) (a:Option Addr) (cap:Nat) (xs:List Int) (k:Nat):Prop where
 cel:Cel W T [.slice a xs.length cap,.int .i64 k]
 rd:Rd W (.slice a xs.length cap) xs.length 1 (xs.map (Value.int .i64))
 ne:xs.length=0∨(Value.slice a xs.length cap).ownBlock≠some T
 ok:∀ x∈xs,-9223372036854775808≤x∧x≤9223372036854775807
 n:xs.length≤140737488355328
theorem Tape.grown {W w:World} {T:Nat} {a:Option Addr} {cap:Nat} {xs:List Int} {k:Nat} {row:Option Nat} (hg:W.grownBy w row) (h1:row≠some T) (h2:row=none∨(Value.slice a xs.length cap).ownBlock≠row) (h:Tape W T a cap xs k):Tape w T a cap xs k:=
 ⟨h.cel.grown hg h1,h.rd.grown hg (by rcases h2 with h2 | h2;exact .inr (.inr (.inl h2));exact .inr (.inl h2)),h.ne,h.ok,h.n⟩
theorem Tape.gr {W w:World} {T:Nat} {a:Option Addr} {cap:Nat} {xs:List Int} {k:Nat} (hg:Gr W w) (h:Tape W T a cap xs k):Tape w T a cap xs k:=h.grown hg.by0 (fun h=>by cases h) (.inl rfl)
theorem tape_mod (v n:Int) (h1:1≤n) (h2:n≤2147483647):0≤(wrap64 (v.tmod n+n)).tmod n∧(wrap64 (v.tmod n+n)).tmod n<n:=by
 have a1:=Int.lt_tmod_of_pos v (show 0<n by omega)
 have a2:=Int.tmod_lt_of_pos v (show 0<n by omega)
 have:wrap64 (v.tmod n+n)=v.tmod n+n:=by unfold wrap64;omega
 rw [this]
 exact⟨Int.tmod_nonneg _ (by omega),Int.tmod_lt_of_pos _ (by omega)⟩
theorem Tape.step {W w:World} {T:Nat} {a:Option Addr} {cap:Nat} {xs:List Int} {k:Nat} (hg:Gr W w) (h:Tape W T a cap xs k) :
  W.grownBy (w.setCell ⟨T,1,none⟩ (.int .i64 (k+1))) (some T)∧Tape (w.setCell ⟨T,1,none⟩ (.int .i64 (k+1))) T a cap xs (k+1):=by
 have h2:=h.gr hg
 refine⟨⟨hg.os,hg.tape,hg.output,by simp [World.setCell];exact hg.size,fun j hj hne=>?_⟩,⟨(h2.cel.set (k:=1) (by simp) (.int .i64 (k+1))),h2.rd.grown (grown_setCell w _ _) (h2.ne.elim .inl (fun h=>.inr (.inl h))),h2.ne,h2.ok,h2.n⟩⟩
 rw [Below.heap_setCell _ _ _ j (fun e=>hne (by rw [e]))]
 exact hg.block j hj
structure TapeArg (w:World) (a:Option Addr) (cap:Nat) (xs:List Int):Prop where
 rd:Rd w (.slice a xs.length cap) xs.length 1 (xs.map (Value.int .i64))
 ok:∀ x∈xs,-9223372036854775808≤x∧x≤9223372036854775807
 n:xs.length≤140737488355328
theorem TapeArg.gr {w w':World} {a:Option Addr} {cap:Nat} {xs:List Int} (hg:Gr w w') (h:TapeArg w a cap xs):TapeArg w' a cap xs:=⟨h.rd.gr hg,h.ok,h.n⟩
theorem TapeArg.box {w:World} {a:Option Addr} {cap:Nat} {xs:List Int} (h:TapeArg w a cap xs) (t:TypeId):Tape (w.alloc (.cells #[.slice a xs.length cap,.int .i64 0] t)) w.heap.size a cap xs 0:=by
 refine⟨Cel.new w #[.slice a xs.length cap,.int .i64 0] t,h.rd.gr ((Gr.refl w).alloc _),?_,h.ok,h.n⟩
 obtain⟨_,a',cap',e,h2 | ⟨b,o,rfl,hb,_⟩⟩:=h.rd
 ·exact .inl h2.1
 ·injection e with e1 e2 e3
  subst e1
  refine .inr (fun h=>?_)
  have:b=w.heap.size:=by simpa [Value.ownBlock] using h
  omega
set_option maxHeartbeats 2000000 in
theorem next_any (T:Nat) (a:Option Addr) (cap:Nat) (xs:List Int) (k:Nat) (n:Int) (w:World) (hT:Tape w T a cap xs k) (hk:k≤1000000) (h1:1≤n) (h2:n≤2147483647) :
  Calls Tryz.prog 12 #[.pointer (some ⟨T,0,none⟩),.int .i64 n] w fun e w'=>∃ r:Int,e=.returned (.int .i64 r)∧0≤r∧r<n∧w.grownBy w' (some T)∧Tape w' T a cap xs (k+1):=by
 have hT':=Lib.hid hT
 obtain⟨hx,c0,c1,f0,f1⟩:=hT.cel.two
 have hn:=hT.n
 have hrd:=hT.rd
 have hok:=Lib.hid hT.ok
 clear hT
 have q0:decide (n<1)=false:=decide_eq_false (by omega)
 by_cases g:k<xs.length
 ·have q1:decide (k<xs.length)=true:=decide_eq_true g
  obtain⟨b,o,cap',e1,hb,hc⟩:=hrd.addr (by omega)
  injection e1 with e1 e2 e3
  subst e1
  subst e3
  have hc:=hc k (.int .i64 xs[k]) (by simp [g])
  have hxk:=hok.out _ (List.getElem_mem g)
  generalize xs[k]=v at hc hxk
  clear hrd
  go_enter Tryz.func12,Tryz.ntmps12
  go_wp2
  refine wp_region_gr (by kernel_rfl) (by kernel_rfl) (fun hq1 hq2=>?_)
  repeat (first | go_big_quiet_skip | (go_big_quiet_want;go_big_quiet_op;first | go_big_quiet_on | (apply Exists.intro;refine⟨fun _=>?_,?_⟩;(· (fail));go_big_quiet_on)))
  refine wpQuiet_nil ?_
  clear hq1 hq2
  rintro w1 ⟨⟨_,hg1⟩,rfl⟩
  obtain⟨hc1,hf1⟩:=hg1.cells
  have hz1:=hg1.size
  (try simp at hz1);(try have hl1_0_0:w.heap.size<w1.heap.size:=by omega);(try have hm1_0_0:w.heap.size≤w1.heap.size:=by omega);(try have hl1_0_1:w.heap.size+1<w1.heap.size:=by omega);(try have hl1_0_2:w.heap.size+2<w1.heap.size:=by omega)
  go_wp2
  have d0:=(hc1 T _ hx).trans c0
  have d1:=(hc1 T _ hx).trans c1
  have dc:=(hc1 b _ hb).trans hc
  have hx1:T<w1.heap.size:=Nat.lt_of_lt_of_le hx hg1.size
  have hb1:b<w1.heap.size:=Nat.lt_of_lt_of_le hb hg1.size
  clear hc1 hf1
  refine wp_region_gr (by kernel_rfl) (by kernel_rfl) (fun hq1 hq2=>?_)
  repeat (first | go_big_quiet_skip | (go_big_quiet_want;go_big_quiet_op;first | go_big_quiet_on | (apply Exists.intro;refine⟨fun _=>?_,?_⟩;(· (fail));go_big_quiet_on)))
  refine wpQuiet_nil ?_
  clear hq1 hq2
  rintro w2 ⟨⟨_,hg2⟩,rfl⟩
  obtain⟨hc2,hf2⟩:=hg2.cells
  have hz2:=hg2.size
  (try simp at hz2);(try have hl2_0_0:w.heap.size<w2.heap.size:=by omega);(try have hm2_0_0:w.heap.size≤w2.heap.size:=by omega);(try have hl2_0_1:w.heap.size+1<w2.heap.size:=by omega);(try have hl2_0_2:w.heap.size+2<w2.heap.size:=by omega);(try have hl2_1_0:w1.heap.size<w2.heap.size:=by omega);(try have hm2_1_0:w1.heap.size≤w2.heap.size:=by omega);(try have hl2_1_1:w1.heap.size+1<w2.heap.size:=by omega);(try have hl2_1_2:w1.heap.size+2<w2.heap.size:=by omega)
  have k0:=(hc2 T _ hx1).trans d0
  have k1:=(hc2 T _ hx1).trans d1
  have hg12:=hg1.trans hg2
  have kf:w2.frozen? ⟨T,1,none⟩=false:=((hg1.trans hg2).cells.2 T _ hx).trans f1
  clear hc2 hf2
  have hb2:=tape_mod v n h1 h2
  go_wp2
  go_ret
  have hs:=hT'.out.step hg12
  exact⟨_,rfl,hb2.1,hb2.2,hs.1,hs.2⟩
 ·have q1:decide (k<xs.length)=false:=decide_eq_false (by omega)
  obtain⟨v,hv⟩:∃ v:Int,(k:Int) * 7+3=v:=⟨_,rfl⟩
  clear hrd
  go_enter Tryz.func12,Tryz.ntmps12
  go_wp2
  refine wp_region_gr (by kernel_rfl) (by kernel_rfl) (fun hq1 hq2=>?_)
  repeat (first | go_big_quiet_skip | (go_big_quiet_want;go_big_quiet_op;first | go_big_quiet_on | (apply Exists.intro;refine⟨fun _=>?_,?_⟩;(· (fail));go_big_quiet_on)))
  refine wpQuiet_nil ?_
  clear hq1 hq2
  rintro w1 ⟨⟨_,hg1⟩,rfl⟩
  obtain⟨hc1,hf1⟩:=hg1.cells
  have hz1:=hg1.size
  (try simp at hz1);(try have hl1_0_0:w.heap.size<w1.heap.size:=by omega);(try have hm1_0_0:w.heap.size≤w1.heap.size:=by omega);(try have hl1_0_1:w.heap.size+1<w1.heap.size:=by omega);(try have hl1_0_2:w.heap.size+2<w1.heap.size:=by omega)
  have d0:=(hc1 T _ hx).trans c0
  have d1:=(hc1 T _ hx).trans c1
  have kf:w1.frozen? ⟨T,1,none⟩=false:=(hg1.cells.2 T _ hx).trans f1
  have hx1:T<w1.heap.size:=Nat.lt_of_lt_of_le hx hg1.size
  clear hc1 hf1
  have hb2:=tape_mod v n h1 h2
  have ev:v.tmod n=v % n:=Int.tmod_eq_emod_of_nonneg (by omega)
  rw [ev] at hb2
  go_wp2
  go_ret
  have hs:=hT'.out.step hg1
  exact⟨_,rfl,hb2.1,hb2.2,hs.1,hs.2⟩
def ByT (W:World) (T:Nat) (w:World):Prop:=W.grownBy w (some T)
theorem ByT.refl (W:World) (T:Nat):ByT W T W:=grownBy_refl _ _
theorem ByT.step {W w w':World} {T:Nat} {row:Option Nat} (h:ByT W T w) (hg:w.grownBy w' row) (hr:∀ k,row=some k→k=T∨W.heap.size≤k):ByT W T w':=by
 refine⟨hg.os.trans h.os,hg.tape.trans h.tape,hg.output.trans h.output,Nat.le_trans h.size hg.size,fun k hk hne=>?_⟩
 rw [hg.block k (Nat.lt_of_lt_of_le hk h.size) (fun e=>by
  rcases hr k e.symm with h1 | h1
  ·exact hne (by rw [h1])
  ·omega)]
 exact h.block k hk hne
theorem ByT.gr {W w w':World} {T:Nat} (h:ByT W T w) (hg:Gr w w'):ByT W T w':=h.step hg.by0 (fun k hk=>by cases hk)
theorem ByT.set {W w:World} {T:Nat} (h:ByT W T w) {p:Addr} (hp:W.heap.size≤p.block) (u:Value):ByT W T (w.setCell p u):=
 h.step (grown_setCell w p u) (fun k hk=>by injection hk with hk;subst hk;exact .inr hp)
theorem ByT.size {W w:World} {T:Nat} (h:ByT W T w):W.heap.size≤w.heap.size:=World.grownBy.size h
theorem Tape.later {W0 W w:World} {T:Nat} {a:Option Addr} {cap:Nat} {xs:List Int} {k k0:Nat} {row:Option Nat} (h0:Tape W0 T a cap xs k0) (hg:W.grownBy w row) (h1:row≠some T) (hr:∀ k,row=some k→W0.heap.size≤k) (h:Tape W T a cap xs k):Tape w T a cap xs k:=by
 refine⟨h.cel.grown hg h1,h.rd.grown hg ?_,h.ne,h.ok,h.n⟩
 obtain⟨_,a',cap',e,h2 | ⟨b,o,rfl,hb,_⟩⟩:=h0.rd
 ·exact .inl h2.1
 ·injection e with e1 e2 e3
  subst e1
  refine .inr (.inl fun e=>?_)
  have:=hr b (by rw [← e];rfl)
  omega
theorem grown_trans {a b c:World} {row:Option Nat} (h:a.grownBy b row) (g:b.grownBy c row):a.grownBy c row:=
 ⟨g.os.trans h.os,g.tape.trans h.tape,g.output.trans h.output,Nat.le_trans h.size g.size,fun k hk hne=>(g.block k (Nat.lt_of_lt_of_le hk h.size) hne).trans (h.block k hk hne)⟩
theorem CuesO.keep {base:Nat} {e:TypeId} {W w:World} {v:Value} {cs:List Cu} {T:Nat} (h:CuesO base e W v cs) (hg:W.grownBy w (some T)) (hT:T<base) (hl:∀ c∈cs,c.lv.ownBlock≠some T):CuesO base e w v cs:=by
 refine⟨h.own.kept hg (.inr (fun h1=>by have:=own_ge h.own _ h1;omega)),fun c hc=>⟨Rd.grown hg (.inr (.inl (hl c hc))) (h.lines c hc).1,fun k hk=>?_⟩⟩
 rcases (h.lines c hc).2 k hk with h1 | ⟨c2,t2,f2,h2,hne⟩
 ·exact .inl h1
 ·refine .inr ⟨c2,t2,f2,?_,hne⟩
  rw [hg.block k (Array.getElem?_eq_some_iff.1 h2).1 (fun e=>hl c hc (by rw [hk];exact e))]
  exact h2
end Go.Proofs.YtnginfangeikpaaGreatDoor
