/-
  Contract of ValidClip of the reference.
  Conditions: the clip's channels lie in memory; its numbers are 64-bit numbers.
-/
import Derived.Test.YtgbiodnfpbhjiaaGreatDoorWalkVs
import Derived.Test.YtgbiodnfpbhjiaaGreatDoorWalkUd
import Derived.Test.YtgbiodnfpbhjiaaGreatDoorWalkTm
import Derived.Test.YtgbiodnfpbhjiaaGreatDoorWalkVa
namespace Go.Proofs.YtgbiodnfpbhjiaaGreatDoor
open Go.RowKit Go.Lib
set_option linter.unusedSimpArgs false
set_option linter.unusedVariables false
def b2i (b:Bool):Int:=if b then 1 else 0
theorem b2i_dec (b:Bool):b=decide (b2i b=1):=by cases b <;> rfl
theorem b2i_one {b:Bool}:b2i b=1↔b=true:=by cases b <;> simp [b2i]
def rcP (len kind gain off tot par cl va vb ka kb vl cx z : Int) : Prop :=
  1 ≤ len ∧ len ≤ 2147483647 ∧ 0 ≤ gain ∧ gain ≤ 65536 ∧ cx = 1 ∧
  ((kind = 0 ∧ ka = 1 ∧ kb = 1 ∧ off = 0 ∧ tot = 0 ∧ par = 0 ∧ z = 1 ∧ gain = 0 ∧ cl = 0) ∨
   (kind = 1 ∧ va = 1 ∧ kb = 1 ∧ off = 0 ∧ tot = 0 ∧ par = 0 ∧ z = 1) ∨
   (kind = 2 ∧ va = 1 ∧ vb = 1 ∧ 0 ≤ off ∧ tot ≤ 2147483647 ∧ off ≤ tot - len ∧ par = 0 ∧ z = 1) ∨
   (kind = 3 ∧ va = 1 ∧ vb = 1 ∧ 0 ≤ off ∧ tot ≤ 2147483647 ∧ off ≤ tot - len ∧ 0 ≤ par ∧ par ≤ 3 ∧ z = 1) ∨
   (kind = 4 ∧ va = 1 ∧ vb = 1 ∧ off = 0 ∧ tot = 0 ∧ 0 ≤ par ∧ par ≤ 255 ∧ z = 1) ∨
   (kind = 5 ∧ va = 1 ∧ kb = 1 ∧ off = 0 ∧ tot = 0 ∧ par = 0 ∧ vl = 1))
theorem rc_iff (c:Cl):vcB c=true↔rcP c.len c.kind c.gain c.off c.tot c.par (c.ch.length:Int) (b2i (vsB c.a)) (b2i (vsB c.b)) (b2i (decide (c.a=blkS))) (b2i (decide (c.b=blkS))) (b2i (vLine c.tx)) (b2i (chB c.ch)) (b2i (decide (c.tx=noTx))):=by
 have f1:b2i (decide (c.a=blkS))=1→b2i (vsB c.a)=1:=fun h=>by
  rw [b2i_one] at h ⊢
  exact (vsB_iff _).2 (.inl (of_decide_eq_true h))
 have f2:b2i (decide (c.b=blkS))=1→b2i (vsB c.b)=1:=fun h=>by
  rw [b2i_one] at h ⊢
  exact (vsB_iff _).2 (.inl (of_decide_eq_true h))
 have e1:=b2i_dec (vsB c.a)
 have e2:=b2i_dec (vsB c.b)
 have e3:=b2i_dec (decide (c.a=blkS))
 have e4:=b2i_dec (decide (c.b=blkS))
 have e5:=b2i_dec (vLine c.tx)
 have e6:=b2i_dec (chB c.ch)
 have e7:=b2i_dec (decide (c.tx=noTx))
 have e8:decide (c.ch=[])=decide ((c.ch.length:Int)=0):=by
  rw [decide_eq_decide]
  constructor
  ·intro h;rw [h];rfl
  ·intro h;exact List.eq_nil_of_length_eq_zero (by omega)
 unfold vcB baseB kdC noS shS
 rw [e8]
 generalize b2i (vsB c.a)=va at *
 generalize b2i (vsB c.b)=vb at *
 generalize b2i (decide (c.a=blkS))=ka at *
 generalize b2i (decide (c.b=blkS))=kb at *
 generalize b2i (vLine c.tx)=vl at *
 generalize b2i (chB c.ch)=cx at *
 generalize b2i (decide (c.tx=noTx))=z at *
 rw [e1,e2,e3,e4,e5,e6,e7]
 clear e1 e2 e3 e4 e5 e6 e7 e8
 unfold rcP
 repeat' split
 all_goals (simp only [Bool.and_eq_true,decide_eq_true_eq,Bool.and_false,Bool.false_eq_true,false_iff];omega)
set_option maxRecDepth 20000 in
set_option maxHeartbeats 16000000 in
theorem rvclip_core (k7:Nat) (hk7:7=k7) (m:CM) (w:World) (hm:ClOk m.c) (hch:ChR w m):Calls Tryz.prog 96 #[m.val] w fun e w'=>e=.returned (.bool (vcB m.c))∧Gr w w':=by
 obtain⟨g1,g2,ga,gb,g3,g4,g5,g6,g7,g8⟩:=hm
 obtain⟨⟨len,kind,a,b,off,tot,par,tx,gain,ch⟩,cv⟩:=m
 obtain⟨ca,cc,hcv⟩:=hch.slice
 simp only at g1 g2 ga gb g3 g4 g5 g6 g7 g8 hcv
 subst hcv
 have HBa:Hid (∀ w',Calls Tryz.prog 57 #[a.val] w' fun e w''=>e=.returned (.bool (decide (a=blkS)))∧Gr w' w''):=Lib.hid fun w'=>rblack_any a w'
 have HBb:Hid (∀ w',Calls Tryz.prog 57 #[b.val] w' fun e w''=>e=.returned (.bool (decide (b=blkS)))∧Gr w' w''):=Lib.hid fun w'=>rblack_any b w'
 have HA:Hid (∀ w',Calls Tryz.prog 129 #[a.val] w' fun e w''=>e=.returned (.bool (vsB a))∧Gr w' w''):=Lib.hid fun w'=>rvsource_any a w' ga
 have HB:Hid (∀ w',Calls Tryz.prog 129 #[b.val] w' fun e w''=>e=.returned (.bool (vsB b))∧Gr w' w''):=Lib.hid fun w'=>rvsource_any b w' gb
 have HL:Hid (∀ w',Calls Tryz.prog 39 #[.string tx] w' fun e w''=>e=.returned (.bool (vLine tx))∧Gr w' w''):=Lib.hid fun w'=>rvalidLine_any tx w' g6
 have HSh:Hid (∀ w',Calls Tryz.prog 128 #[.int .i64 kind] w' fun e w''=>e=.returned (.bool (shr kind))∧Gr w' w''):=Lib.hid fun w'=>rshares_any kind w'
 have htx:(tx.toList.isEmpty=true)↔tx=noTx:=by rw [ByteArray.toList_eq,List.isEmpty_iff];exact⟨fun h=>ba_ext h,fun h=>by rw [h]⟩
 have htz:tx.toList.isEmpty=decide (tx=noTx):=by rw [Bool.eq_iff_iff,htx,decide_eq_true_eq]
 have hR:=rc_iff ⟨len,kind,a,b,off,tot,par,tx,gain,ch⟩
 simp only at hR
 obtain⟨R,hRe⟩:∃ R,vcB ⟨len,kind,a,b,off,tot,par,tx,gain,ch⟩=R:=⟨_,rfl⟩
 rw [hRe] at hR ⊢
 rw [← htz] at hR
 clear hRe htx htz
 have aE7:∀ w,(isAgg 79).run Tryz.prog w=.ok true w:=Tryz.isAgg79
 have zE7:∀ w,(Go.sizeOf 79).run Tryz.prog w=.ok k7 w:=fun w=>by rw [← hk7];exact Tryz.sizeOf79 w
 unfold CM.val
 obtain⟨l,hl⟩:∃ l,(CM.mk ⟨len,kind,a,b,off,tot,par,tx,gain,ch⟩ (.slice ca ch.length cc)).cells=l:=⟨_,rfl⟩
 rw [hl]
 have l0:l[0]?=some (.int .i64 len):=by rw [← hl];rfl
 have l1:l[1]?=some (.int .i64 kind):=by rw [← hl];rfl
 have l16:l[16]?=some (.int .i64 off):=by rw [← hl];rfl
 have l17:l[17]?=some (.int .i64 tot):=by rw [← hl];rfl
 have l18:l[18]?=some (.int .i64 par):=by rw [← hl];rfl
 have l19:l[19]?=some (.string tx):=by rw [← hl];rfl
 have l20:l[20]?=some (.int .i64 gain):=by rw [← hl];rfl
 have l21:l[21]?=some (.slice ca ch.length cc):=by rw [← hl];rfl
 have la:∀ j u,a.cells[j]?=some u→l[2+j]?=some u:=fun j u hu=>by
  rw [← hl]
  have hj:j<7:=(List.getElem?_eq_some_iff.1 hu).1
  rcases (show j=0∨j=1∨j=2∨j=3∨j=4∨j=5∨j=6 by omega) with rfl | rfl | rfl | rfl | rfl | rfl | rfl <;> exact hu
 have lb:∀ j u,b.cells[j]?=some u→l[9+j]?=some u:=fun j u hu=>by
  rw [← hl]
  have hj:j<7:=(List.getElem?_eq_some_iff.1 hu).1
  rcases (show j=0∨j=1∨j=2∨j=3∨j=4∨j=5∨j=6 by omega) with rfl | rfl | rfl | rfl | rfl | rfl | rfl <;> exact hu
 clear hl
 have hbx:=Cel.new w l.toArray 81
 have hgA:=(Gr.refl w).alloc (.cells l.toArray 81)
 rw [show a.val=.agg a.cells.toArray from rfl] at HBa HA
 rw [show b.val=.agg b.cells.toArray from rfl] at HBb HB
 have hka:a.cells.length=k7:=by rw [← hk7];rfl
 have hkb:b.cells.length=k7:=by rw [← hk7];rfl
 obtain⟨A,hA⟩:∃ A,a.cells=A:=⟨_,rfl⟩
 obtain⟨B,hB⟩:∃ B,b.cells=B:=⟨_,rfl⟩
 rw [b2i_dec (decide (a=blkS))] at HBa
 rw [b2i_dec (decide (b=blkS))] at HBb
 rw [b2i_dec (vsB a)] at HA
 rw [b2i_dec (vsB b)] at HB
 rw [b2i_dec (vLine tx)] at HL
 have hcx:Hid (∀ b:Bool,chB ch=b→(b=true→b2i (chB ch)=1)∧(b=false→b2i (chB ch)=0)):=Lib.hid fun b h=>by rw [h];exact⟨fun h=>by rw [h];rfl,fun h=>by rw [h];rfl⟩
 generalize b2i (vsB a)=va at *
 generalize b2i (vsB b)=vb at *
 generalize b2i (decide (a=blkS))=ka at *
 generalize b2i (decide (b=blkS))=kb at *
 generalize b2i (vLine tx)=vl at *
 generalize b2i (chB ch)=cx at *
 rw [hA] at HBa HA hka la
 rw [hB] at HBb HB hkb lb
 clear hA hB
 have hlda:Hid (∀ wx,Gr (w.alloc (.cells l.toArray 81)) wx→Sem.run Tryz.prog (loadCellsFrom ⟨w.heap.size,2,none⟩ 0 k7 #[]) wx=.ok A.toArray wx∧Sem.run Tryz.prog (loadCellsFrom ⟨w.heap.size,9,none⟩ 0 k7 #[]) wx=.ok B.toArray wx):=Lib.hid fun wx hg=>⟨ld_row hka fun j u hu=>((hbx.gr hg).2 _ _ (la j u hu)).1,ld_row hkb fun j u hu=>((hbx.gr hg).2 _ _ (lb j u hu)).1⟩
 clear la lb hka hkb
 have hk0:¬ k7=0:=by omega
 replace hk7:=Lib.hid hk7
 have fls:Hid (¬ rcP len kind gain off tot par (ch.length:Int) va vb ka kb vl cx (b2i tx.toList.isEmpty)→Ending.returned (.bool false)=Ending.returned (.bool R)):=Lib.hid (fun h=>by rw [Bool.eq_false_iff.2 (fun e=>h (hR.1 e))])
 have val:Hid (∀ b:Bool,(b=true↔rcP len kind gain off tot par (ch.length:Int) va vb ka kb vl cx (b2i tx.toList.isEmpty))→Ending.returned (.bool b)=Ending.returned (.bool R)):=Lib.hid (fun b h=>by rw [Bool.eq_iff_iff.2 (h.trans hR.symm)])
 replace hR:=Lib.hid hR
 obtain⟨zi,hzi⟩:∃ zi,b2i tx.toList.isEmpty=zi:=⟨_,rfl⟩
 have hzb:tx.toList.isEmpty=decide (zi=1):=by rw [← hzi];exact b2i_dec _
 rw [hzi] at fls val
 clear hzi
 obtain⟨g30,g31⟩:=g3
 obtain⟨g40,g41⟩:=g4
 obtain⟨W,hW⟩:∃ W,w.alloc (.cells l.toArray 81)=W:=⟨_,rfl⟩
 rw [hW] at hbx hgA hlda
 have xx:=(hbx).lt
 have x0:=((hbx).2 0 _ l0).1
 have x1:=((hbx).2 1 _ l1).1
 have x16:=((hbx).2 16 _ l16).1
 have x17:=((hbx).2 17 _ l17).1
 have x18:=((hbx).2 18 _ l18).1
 have x20:=((hbx).2 20 _ l20).1
 have x19:=((hbx).2 19 _ l19).1
 have x21:=((hbx).2 21 _ l21).1
 go_enter Tryz.func96,Tryz.ntmps96
 go_upto_region 1 with fail
 clear hW
 have gl:(ch.length:Int) * 8≤140737488355328:=by omega
 by_cases c0:len<1
 ·have q0:decide (len<1)=true:=decide_eq_true c0
  go_wp2
  go_ret
  refine⟨fls.out ?_,(by repeat (first | with_reducible exact Gr.refl _ | with_reducible assumption | refine Gr.setCell ?_ (by first | omega | (simp;done) | (simp;omega)) _ | refine Gr.alloc ?_ _ | refine Gr.drew ?_ | refine Gr.drewN ?_ _ | refine Gr.trans ?_ (by with_reducible assumption)))⟩
  unfold rcP
  omega
 have q0:decide (len<1)=false:=decide_eq_false c0
 by_cases c1:2147483647<len
 ·have q1:decide (2147483647<len)=true:=decide_eq_true c1
  go_wp2
  go_ret
  refine⟨fls.out ?_,(by repeat (first | with_reducible exact Gr.refl _ | with_reducible assumption | refine Gr.setCell ?_ (by first | omega | (simp;done) | (simp;omega)) _ | refine Gr.alloc ?_ _ | refine Gr.drew ?_ | refine Gr.drewN ?_ _ | refine Gr.trans ?_ (by with_reducible assumption)))⟩
  unfold rcP
  omega
 have q1:decide (2147483647<len)=false:=decide_eq_false c1
 by_cases c2:kind<0
 ·have q2:decide (kind<0)=true:=decide_eq_true c2
  go_wp2
  go_ret
  refine⟨fls.out ?_,(by repeat (first | with_reducible exact Gr.refl _ | with_reducible assumption | refine Gr.setCell ?_ (by first | omega | (simp;done) | (simp;omega)) _ | refine Gr.alloc ?_ _ | refine Gr.drew ?_ | refine Gr.drewN ?_ _ | refine Gr.trans ?_ (by with_reducible assumption)))⟩
  unfold rcP
  omega
 have q2:decide (kind<0)=false:=decide_eq_false c2
 by_cases c3:5<kind
 ·have q3:decide (5<kind)=true:=decide_eq_true c3
  go_wp2
  go_ret
  refine⟨fls.out ?_,(by repeat (first | with_reducible exact Gr.refl _ | with_reducible assumption | refine Gr.setCell ?_ (by first | omega | (simp;done) | (simp;omega)) _ | refine Gr.alloc ?_ _ | refine Gr.drew ?_ | refine Gr.drewN ?_ _ | refine Gr.trans ?_ (by with_reducible assumption)))⟩
  unfold rcP
  omega
 have q3:decide (5<kind)=false:=decide_eq_false c3
 by_cases c4:gain<0
 ·have q4:decide (gain<0)=true:=decide_eq_true c4
  go_wp2
  go_ret
  refine⟨fls.out ?_,(by repeat (first | with_reducible exact Gr.refl _ | with_reducible assumption | refine Gr.setCell ?_ (by first | omega | (simp;done) | (simp;omega)) _ | refine Gr.alloc ?_ _ | refine Gr.drew ?_ | refine Gr.drewN ?_ _ | refine Gr.trans ?_ (by with_reducible assumption)))⟩
  unfold rcP
  omega
 have q4:decide (gain<0)=false:=decide_eq_false c4
 by_cases c5:65536<gain
 ·have q5:decide (65536<gain)=true:=decide_eq_true c5
  go_wp2
  go_ret
  refine⟨fls.out ?_,(by repeat (first | with_reducible exact Gr.refl _ | with_reducible assumption | refine Gr.setCell ?_ (by first | omega | (simp;done) | (simp;omega)) _ | refine Gr.alloc ?_ _ | refine Gr.drew ?_ | refine Gr.drewN ?_ _ | refine Gr.trans ?_ (by with_reducible assumption)))⟩
  unfold rcP
  omega
 have q5:decide (65536<gain)=false:=decide_eq_false c5
 by_cases c6:4<(ch.length:Int)
 ·have q6:decide (4<(ch.length:Int))=true:=decide_eq_true c6
  have q6':decide (4<ch.length)=true:=decide_eq_true (by omega)
  have hcl:cx=0:=(hcx.out false (by unfold chB;rw [decide_eq_false (by omega)];rfl)).2 rfl
  go_wp2
  go_ret
  refine⟨fls.out ?_,(by repeat (first | with_reducible exact Gr.refl _ | with_reducible assumption | refine Gr.setCell ?_ (by first | omega | (simp;done) | (simp;omega)) _ | refine Gr.alloc ?_ _ | refine Gr.drew ?_ | refine Gr.drewN ?_ _ | refine Gr.trans ?_ (by with_reducible assumption)))⟩
  unfold rcP
  omega
 have q6:decide (4<(ch.length:Int))=false:=decide_eq_false c6
 have q6':decide (4<ch.length)=false:=decide_eq_false (by omega)
 go_upto_region 3 with fail
 go_wp2
 go_loopw [3] (fun i wr=>∃ j:Nat,j≤ch.length∧i=.int .i64 j∧Gr W wr∧Hid (∀ (i:Nat) (hi:i<ch.length),i<j→chX ch[i]=true)) (fun i _=>ch.length - (RowKit.intOf i).toNat)
 case atStart=>exact⟨0,Nat.zero_le _,rfl,Gr.refl _,Lib.hid fun i hi h=>by omega⟩
 case round=>
  obtain⟨j,hj,rfl,hg,hpre⟩:=hrel
  have hbr:=hbx.gr hg
  clear xx x0 x1 x16 x17 x18 x19 x20 x21
  have yx:=(hbr).lt
  have y21:=((hbr).2 21 _ l21).1
  by_cases cj:j<ch.length
  ·have qj:decide ((j:Int)<(ch.length:Int))=true:=decide_eq_true (by omega)
   have hrd:Rd wr (.slice ca ch.length cc) ch.length 1 (intsV ch):=Rd.gr (hgA.trans hg) hch
   obtain⟨b',o',cap',e1,hb',hc'⟩:=hrd.addr (by omega)
   injection e1 with e1 e2 e3
   subst e1
   clear e2 e3
   have hcj:=hc' j _ (ints_at cj)
   have hmem:ch[j]∈ch:=List.getElem_mem cj
   have hbad:chX ch[j]=false→cx=0:=fun h=>(hcx.out false (by unfold chB;rw [List.all_eq_false.2 ⟨_,hmem,by rw [h];simp⟩,Bool.and_false])).2 rfl
   have hgood:chX ch[j]=true→Hid (∀ (i:Nat) (hi:i<ch.length),i<j+1→chX ch[i]=true):=fun h=>Lib.hid fun i hi h2=>by
    rcases (show i<j∨i=j by omega) with h3 | h3
    ·exact hpre.out i hi h3
    ·subst h3;exact h
   have hchX:∀ x,chX x=true↔-1≤x∧x≤3:=fun x=>by unfold chX;simp [Bool.and_eq_true,decide_eq_true_eq]
   have hX:=hchX ch[j]
   generalize ch[j]=x at *
   clear hchX hpre hmem
   have hbl:=Nat.lt_of_lt_of_le hb' (Nat.le_refl _)
   by_cases d1:x < -1
   ·have r1:decide (x < -1)=true:=decide_eq_true d1
    have hcl:=hbad (Bool.eq_false_iff.2 fun e=>by have:=hX.1 e;omega)
    clear hX hgood hbad
    go_wp2
    go_ret
    refine⟨fls.out ?_,(by repeat (first | with_reducible exact Gr.refl _ | with_reducible assumption | refine Gr.setCell ?_ (by first | omega | (simp;done) | (simp;omega)) _ | refine Gr.alloc ?_ _ | refine Gr.drew ?_ | refine Gr.drewN ?_ _ | refine Gr.trans ?_ (by with_reducible assumption)))⟩
    unfold rcP
    omega
   ·have r1:decide (x < -1)=false:=decide_eq_false d1
    by_cases d2:4≤x
    ·have r2:decide (4≤x)=true:=decide_eq_true d2
     have hcl:=hbad (Bool.eq_false_iff.2 fun e=>by have:=hX.1 e;omega)
     clear hX hgood hbad
     go_wp2
     go_ret
     refine⟨fls.out ?_,(by repeat (first | with_reducible exact Gr.refl _ | with_reducible assumption | refine Gr.setCell ?_ (by first | omega | (simp;done) | (simp;omega)) _ | refine Gr.alloc ?_ _ | refine Gr.drew ?_ | refine Gr.drewN ?_ _ | refine Gr.trans ?_ (by with_reducible assumption)))⟩
     unfold rcP
     omega
    ·have r2:decide (4≤x)=false:=decide_eq_false d2
     have hgo:=hgood (hX.2 (by omega))
     clear hX hgood hbad
     go_wp2
     go_roundw
     case rel=>exact⟨j+1,by omega,by go_num,hg,hgo⟩
     case measure=>simp [RowKit.intOf];omega
  ·have qj:decide ((j:Int)<(ch.length:Int))=false:=decide_eq_false (by omega)
   obtain rfl:j=ch.length:=by omega
   have hcl:cx=1:=(hcx.out true (by
    unfold chB
    rw [decide_eq_true (by omega),List.all_eq_true.2 fun x hx=>by
     obtain⟨i,hi,rfl⟩:=List.getElem_of_mem hx
     exact hpre.out i hi hi]
    rfl)).1 rfl
   clear hpre hcx hch
   go_upto_region 8 with fail
   rcases (show kind=0∨kind=1∨kind=2∨kind=3∨kind=4∨kind=5 by omega) with rfl | rfl | rfl | rfl | rfl | rfl
   ·rw [show shr 0=false from by decide] at HSh
    have y1:=((hbr).2 1 _ l1).1
    refine wp_region_gr (by kernel_rfl) (by kernel_rfl) (fun hq1 hq2=>?_)
    repeat (first | go_big_quiet_skip | (go_big_quiet_want;go_big_quiet_op;first | go_big_quiet_on | (apply Exists.intro;refine⟨fun _=>?_,?_⟩;(· ((go_at_call 128;exact gr_call (HSh.out _))));go_big_quiet_on)))
    refine wpQuiet_nil ?_
    clear hq1 hq2
    rintro w9 ⟨⟨_,hg9⟩,rfl⟩
    obtain⟨hc9,hf9⟩:=hg9.cells
    have hz9:=hg9.size
    (try simp at hz9);(try have hl9_0_0:w.heap.size<w9.heap.size:=by omega);(try have hm9_0_0:w.heap.size≤w9.heap.size:=by omega);(try have hl9_0_1:w.heap.size+1<w9.heap.size:=by omega);(try have hl9_0_2:w.heap.size+2<w9.heap.size:=by omega);(try have hl9_1_0:w1.heap.size<w9.heap.size:=by omega);(try have hm9_1_0:w1.heap.size≤w9.heap.size:=by omega);(try have hl9_1_1:w1.heap.size+1<w9.heap.size:=by omega);(try have hl9_1_2:w1.heap.size+2<w9.heap.size:=by omega);(try have hl9_2_0:w2.heap.size<w9.heap.size:=by omega);(try have hm9_2_0:w2.heap.size≤w9.heap.size:=by omega);(try have hl9_2_1:w2.heap.size+1<w9.heap.size:=by omega);(try have hl9_2_2:w2.heap.size+2<w9.heap.size:=by omega);(try have hl9_3_0:w3.heap.size<w9.heap.size:=by omega);(try have hm9_3_0:w3.heap.size≤w9.heap.size:=by omega);(try have hl9_3_1:w3.heap.size+1<w9.heap.size:=by omega);(try have hl9_3_2:w3.heap.size+2<w9.heap.size:=by omega);(try have hl9_4_0:w4.heap.size<w9.heap.size:=by omega);(try have hm9_4_0:w4.heap.size≤w9.heap.size:=by omega);(try have hl9_4_1:w4.heap.size+1<w9.heap.size:=by omega);(try have hl9_4_2:w4.heap.size+2<w9.heap.size:=by omega);(try have hl9_5_0:w5.heap.size<w9.heap.size:=by omega);(try have hm9_5_0:w5.heap.size≤w9.heap.size:=by omega);(try have hl9_5_1:w5.heap.size+1<w9.heap.size:=by omega);(try have hl9_5_2:w5.heap.size+2<w9.heap.size:=by omega);(try have hl9_6_0:w6.heap.size<w9.heap.size:=by omega);(try have hm9_6_0:w6.heap.size≤w9.heap.size:=by omega);(try have hl9_6_1:w6.heap.size+1<w9.heap.size:=by omega);(try have hl9_6_2:w6.heap.size+2<w9.heap.size:=by omega);(try have hl9_7_0:w7.heap.size<w9.heap.size:=by omega);(try have hm9_7_0:w7.heap.size≤w9.heap.size:=by omega);(try have hl9_7_1:w7.heap.size+1<w9.heap.size:=by omega);(try have hl9_7_2:w7.heap.size+2<w9.heap.size:=by omega);(try have hl9_8_0:w8.heap.size<w9.heap.size:=by omega);(try have hm9_8_0:w8.heap.size≤w9.heap.size:=by omega);(try have hl9_8_1:w8.heap.size+1<w9.heap.size:=by omega);(try have hl9_8_2:w8.heap.size+2<w9.heap.size:=by omega)
    have hb9:=hbr.gr hg9
    clear yx y21 y1
    have zx:=(hb9).lt
    have z0:=((hb9).2 0 _ l0).1
    have z1:=((hb9).2 1 _ l1).1
    have z16:=((hb9).2 16 _ l16).1
    have z17:=((hb9).2 17 _ l17).1
    have z18:=((hb9).2 18 _ l18).1
    have z19:=((hb9).2 19 _ l19).1
    have z20:=((hb9).2 20 _ l20).1
    have z21:=((hb9).2 21 _ l21).1
    obtain⟨sa9,sb9⟩:=hlda.out _ (hg.trans hg9)
    go_wp2_with (first | (go_at_call 129;(with_reducible refine (HA.out _).mono ?_);rintro e w3 ⟨rfl,hg3⟩;have hb3:=hb9.gr hg3;have v3_x:=(hb3).lt;have v3_0:=((hb3).2 0 _ l0).1;have v3_1:=((hb3).2 1 _ l1).1;have v3_16:=((hb3).2 16 _ l16).1;have v3_17:=((hb3).2 17 _ l17).1;have v3_18:=((hb3).2 18 _ l18).1;have v3_19:=((hb3).2 19 _ l19).1;have v3_20:=((hb3).2 20 _ l20).1;have v3_21:=((hb3).2 21 _ l21).1;have hs3:Gr W w3:=(hg.trans hg9).trans hg3;obtain⟨sa3,sb3⟩:=hlda.out _ hs3) | (go_at_call 57;(with_reducible refine (HBa.out _).mono ?_);rintro e w3 ⟨rfl,hg3⟩;have hb3:=hb9.gr hg3;have v3_x:=(hb3).lt;have v3_0:=((hb3).2 0 _ l0).1;have v3_1:=((hb3).2 1 _ l1).1;have v3_16:=((hb3).2 16 _ l16).1;have v3_17:=((hb3).2 17 _ l17).1;have v3_18:=((hb3).2 18 _ l18).1;have v3_19:=((hb3).2 19 _ l19).1;have v3_20:=((hb3).2 20 _ l20).1;have v3_21:=((hb3).2 21 _ l21).1;have hs3:Gr W w3:=(hg.trans hg9).trans hg3;obtain⟨sa3,sb3⟩:=hlda.out _ hs3) | (go_at_call 129;(with_reducible refine (HB.out _).mono ?_);rintro e w4 ⟨rfl,hg4⟩;have hb4:=hb3.gr hg4;have v4_x:=(hb4).lt;have v4_0:=((hb4).2 0 _ l0).1;have v4_1:=((hb4).2 1 _ l1).1;have v4_16:=((hb4).2 16 _ l16).1;have v4_17:=((hb4).2 17 _ l17).1;have v4_18:=((hb4).2 18 _ l18).1;have v4_19:=((hb4).2 19 _ l19).1;have v4_20:=((hb4).2 20 _ l20).1;have v4_21:=((hb4).2 21 _ l21).1;have hs4:Gr W w4:=hs3.trans hg4;obtain⟨sa4,sb4⟩:=hlda.out _ hs4) | (go_at_call 57;(with_reducible refine (HBb.out _).mono ?_);rintro e w4 ⟨rfl,hg4⟩;have hb4:=hb3.gr hg4;have v4_x:=(hb4).lt;have v4_0:=((hb4).2 0 _ l0).1;have v4_1:=((hb4).2 1 _ l1).1;have v4_16:=((hb4).2 16 _ l16).1;have v4_17:=((hb4).2 17 _ l17).1;have v4_18:=((hb4).2 18 _ l18).1;have v4_19:=((hb4).2 19 _ l19).1;have v4_20:=((hb4).2 20 _ l20).1;have v4_21:=((hb4).2 21 _ l21).1;have hs4:Gr W w4:=hs3.trans hg4;obtain⟨sa4,sb4⟩:=hlda.out _ hs4) | (go_at_call 128;(with_reducible refine (HSh.out _).mono ?_);rintro e w5 ⟨rfl,hg5⟩;have hb5:=hb4.gr hg5;have v5_x:=(hb5).lt;have v5_0:=((hb5).2 0 _ l0).1;have v5_1:=((hb5).2 1 _ l1).1;have v5_16:=((hb5).2 16 _ l16).1;have v5_17:=((hb5).2 17 _ l17).1;have v5_18:=((hb5).2 18 _ l18).1;have v5_19:=((hb5).2 19 _ l19).1;have v5_20:=((hb5).2 20 _ l20).1;have v5_21:=((hb5).2 21 _ l21).1;have hs5:Gr W w5:=hs4.trans hg5;obtain⟨sa5,sb5⟩:=hlda.out _ hs5) | (go_at_call 39;(with_reducible refine (HL.out _).mono ?_);rintro e w6 ⟨rfl,hg6⟩;have hb6:=hb5.gr hg6;have v6_x:=(hb6).lt;have v6_0:=((hb6).2 0 _ l0).1;have v6_1:=((hb6).2 1 _ l1).1;have v6_16:=((hb6).2 16 _ l16).1;have v6_17:=((hb6).2 17 _ l17).1;have v6_18:=((hb6).2 18 _ l18).1;have v6_19:=((hb6).2 19 _ l19).1;have v6_20:=((hb6).2 20 _ l20).1;have v6_21:=((hb6).2 21 _ l21).1;have hs6:Gr W w6:=hs5.trans hg6;obtain⟨sa6,sb6⟩:=hlda.out _ hs6))
    all_goals first
     | (go_ret;refine⟨fls.out ?_,(by repeat (first | with_reducible exact Gr.refl _ | with_reducible assumption | refine Gr.setCell ?_ (by first | omega | (simp;done) | (simp;omega)) _ | refine Gr.alloc ?_ _ | refine Gr.drew ?_ | refine Gr.drewN ?_ _ | refine Gr.trans ?_ (by with_reducible assumption)))⟩;clear hR HBa HBb HA HB HL HSh fls val hlda;unfold rcP;(try simp only [size_zero_iff,decide_eq_true_eq,decide_eq_false_iff_not,bne_iff_ne,ne_eq,bne_eq_false_iff_eq,beq_iff_eq,beq_eq_false_iff_ne,Bool.and_eq_true,Bool.or_eq_true,Bool.false_eq_true,not_false_eq_true,Bool.not_eq_true,Bool.not_eq_false,Bool.not_eq_true',Bool.not_eq_false',true_and,and_true,false_and,and_false,false_or,or_false,true_or,or_true] at *);omega)
     | (go_ret;refine⟨val.out _ ?_,(by repeat (first | with_reducible exact Gr.refl _ | with_reducible assumption | refine Gr.setCell ?_ (by first | omega | (simp;done) | (simp;omega)) _ | refine Gr.alloc ?_ _ | refine Gr.drew ?_ | refine Gr.drewN ?_ _ | refine Gr.trans ?_ (by with_reducible assumption)))⟩;clear hR HBa HBb HA HB HL HSh fls val hlda;unfold rcP;(try simp only [size_zero_iff,decide_eq_true_eq,decide_eq_false_iff_not,bne_iff_ne,ne_eq,bne_eq_false_iff_eq,beq_iff_eq,beq_eq_false_iff_ne,Bool.and_eq_true,Bool.or_eq_true,Bool.false_eq_true,not_false_eq_true,Bool.not_eq_true,Bool.not_eq_false,Bool.not_eq_true',Bool.not_eq_false',true_and,and_true,false_and,and_false,false_or,or_false,true_or,or_true] at *);constructor <;> intro hx <;> omega)
     | trace_state
   ·rw [show shr 1=false from by decide] at HSh
    have y1:=((hbr).2 1 _ l1).1
    refine wp_region_gr (by kernel_rfl) (by kernel_rfl) (fun hq1 hq2=>?_)
    repeat (first | go_big_quiet_skip | (go_big_quiet_want;go_big_quiet_op;first | go_big_quiet_on | (apply Exists.intro;refine⟨fun _=>?_,?_⟩;(· ((go_at_call 128;exact gr_call (HSh.out _))));go_big_quiet_on)))
    refine wpQuiet_nil ?_
    clear hq1 hq2
    rintro w9 ⟨⟨_,hg9⟩,rfl⟩
    obtain⟨hc9,hf9⟩:=hg9.cells
    have hz9:=hg9.size
    (try simp at hz9);(try have hl9_0_0:w.heap.size<w9.heap.size:=by omega);(try have hm9_0_0:w.heap.size≤w9.heap.size:=by omega);(try have hl9_0_1:w.heap.size+1<w9.heap.size:=by omega);(try have hl9_0_2:w.heap.size+2<w9.heap.size:=by omega);(try have hl9_1_0:w1.heap.size<w9.heap.size:=by omega);(try have hm9_1_0:w1.heap.size≤w9.heap.size:=by omega);(try have hl9_1_1:w1.heap.size+1<w9.heap.size:=by omega);(try have hl9_1_2:w1.heap.size+2<w9.heap.size:=by omega);(try have hl9_2_0:w2.heap.size<w9.heap.size:=by omega);(try have hm9_2_0:w2.heap.size≤w9.heap.size:=by omega);(try have hl9_2_1:w2.heap.size+1<w9.heap.size:=by omega);(try have hl9_2_2:w2.heap.size+2<w9.heap.size:=by omega);(try have hl9_3_0:w3.heap.size<w9.heap.size:=by omega);(try have hm9_3_0:w3.heap.size≤w9.heap.size:=by omega);(try have hl9_3_1:w3.heap.size+1<w9.heap.size:=by omega);(try have hl9_3_2:w3.heap.size+2<w9.heap.size:=by omega);(try have hl9_4_0:w4.heap.size<w9.heap.size:=by omega);(try have hm9_4_0:w4.heap.size≤w9.heap.size:=by omega);(try have hl9_4_1:w4.heap.size+1<w9.heap.size:=by omega);(try have hl9_4_2:w4.heap.size+2<w9.heap.size:=by omega);(try have hl9_5_0:w5.heap.size<w9.heap.size:=by omega);(try have hm9_5_0:w5.heap.size≤w9.heap.size:=by omega);(try have hl9_5_1:w5.heap.size+1<w9.heap.size:=by omega);(try have hl9_5_2:w5.heap.size+2<w9.heap.size:=by omega);(try have hl9_6_0:w6.heap.size<w9.heap.size:=by omega);(try have hm9_6_0:w6.heap.size≤w9.heap.size:=by omega);(try have hl9_6_1:w6.heap.size+1<w9.heap.size:=by omega);(try have hl9_6_2:w6.heap.size+2<w9.heap.size:=by omega);(try have hl9_7_0:w7.heap.size<w9.heap.size:=by omega);(try have hm9_7_0:w7.heap.size≤w9.heap.size:=by omega);(try have hl9_7_1:w7.heap.size+1<w9.heap.size:=by omega);(try have hl9_7_2:w7.heap.size+2<w9.heap.size:=by omega);(try have hl9_8_0:w8.heap.size<w9.heap.size:=by omega);(try have hm9_8_0:w8.heap.size≤w9.heap.size:=by omega);(try have hl9_8_1:w8.heap.size+1<w9.heap.size:=by omega);(try have hl9_8_2:w8.heap.size+2<w9.heap.size:=by omega)
    have hb9:=hbr.gr hg9
    clear yx y21 y1
    have zx:=(hb9).lt
    have z0:=((hb9).2 0 _ l0).1
    have z1:=((hb9).2 1 _ l1).1
    have z16:=((hb9).2 16 _ l16).1
    have z17:=((hb9).2 17 _ l17).1
    have z18:=((hb9).2 18 _ l18).1
    have z19:=((hb9).2 19 _ l19).1
    have z20:=((hb9).2 20 _ l20).1
    have z21:=((hb9).2 21 _ l21).1
    obtain⟨sa9,sb9⟩:=hlda.out _ (hg.trans hg9)
    go_wp2_with (first | (go_at_call 129;(with_reducible refine (HA.out _).mono ?_);rintro e w3 ⟨rfl,hg3⟩;have hb3:=hb9.gr hg3;have v3_x:=(hb3).lt;have v3_0:=((hb3).2 0 _ l0).1;have v3_1:=((hb3).2 1 _ l1).1;have v3_16:=((hb3).2 16 _ l16).1;have v3_17:=((hb3).2 17 _ l17).1;have v3_18:=((hb3).2 18 _ l18).1;have v3_19:=((hb3).2 19 _ l19).1;have v3_20:=((hb3).2 20 _ l20).1;have v3_21:=((hb3).2 21 _ l21).1;have hs3:Gr W w3:=(hg.trans hg9).trans hg3;obtain⟨sa3,sb3⟩:=hlda.out _ hs3) | (go_at_call 57;(with_reducible refine (HBa.out _).mono ?_);rintro e w3 ⟨rfl,hg3⟩;have hb3:=hb9.gr hg3;have v3_x:=(hb3).lt;have v3_0:=((hb3).2 0 _ l0).1;have v3_1:=((hb3).2 1 _ l1).1;have v3_16:=((hb3).2 16 _ l16).1;have v3_17:=((hb3).2 17 _ l17).1;have v3_18:=((hb3).2 18 _ l18).1;have v3_19:=((hb3).2 19 _ l19).1;have v3_20:=((hb3).2 20 _ l20).1;have v3_21:=((hb3).2 21 _ l21).1;have hs3:Gr W w3:=(hg.trans hg9).trans hg3;obtain⟨sa3,sb3⟩:=hlda.out _ hs3) | (go_at_call 129;(with_reducible refine (HB.out _).mono ?_);rintro e w4 ⟨rfl,hg4⟩;have hb4:=hb3.gr hg4;have v4_x:=(hb4).lt;have v4_0:=((hb4).2 0 _ l0).1;have v4_1:=((hb4).2 1 _ l1).1;have v4_16:=((hb4).2 16 _ l16).1;have v4_17:=((hb4).2 17 _ l17).1;have v4_18:=((hb4).2 18 _ l18).1;have v4_19:=((hb4).2 19 _ l19).1;have v4_20:=((hb4).2 20 _ l20).1;have v4_21:=((hb4).2 21 _ l21).1;have hs4:Gr W w4:=hs3.trans hg4;obtain⟨sa4,sb4⟩:=hlda.out _ hs4) | (go_at_call 57;(with_reducible refine (HBb.out _).mono ?_);rintro e w4 ⟨rfl,hg4⟩;have hb4:=hb3.gr hg4;have v4_x:=(hb4).lt;have v4_0:=((hb4).2 0 _ l0).1;have v4_1:=((hb4).2 1 _ l1).1;have v4_16:=((hb4).2 16 _ l16).1;have v4_17:=((hb4).2 17 _ l17).1;have v4_18:=((hb4).2 18 _ l18).1;have v4_19:=((hb4).2 19 _ l19).1;have v4_20:=((hb4).2 20 _ l20).1;have v4_21:=((hb4).2 21 _ l21).1;have hs4:Gr W w4:=hs3.trans hg4;obtain⟨sa4,sb4⟩:=hlda.out _ hs4) | (go_at_call 128;(with_reducible refine (HSh.out _).mono ?_);rintro e w5 ⟨rfl,hg5⟩;have hb5:=hb4.gr hg5;have v5_x:=(hb5).lt;have v5_0:=((hb5).2 0 _ l0).1;have v5_1:=((hb5).2 1 _ l1).1;have v5_16:=((hb5).2 16 _ l16).1;have v5_17:=((hb5).2 17 _ l17).1;have v5_18:=((hb5).2 18 _ l18).1;have v5_19:=((hb5).2 19 _ l19).1;have v5_20:=((hb5).2 20 _ l20).1;have v5_21:=((hb5).2 21 _ l21).1;have hs5:Gr W w5:=hs4.trans hg5;obtain⟨sa5,sb5⟩:=hlda.out _ hs5) | (go_at_call 39;(with_reducible refine (HL.out _).mono ?_);rintro e w6 ⟨rfl,hg6⟩;have hb6:=hb5.gr hg6;have v6_x:=(hb6).lt;have v6_0:=((hb6).2 0 _ l0).1;have v6_1:=((hb6).2 1 _ l1).1;have v6_16:=((hb6).2 16 _ l16).1;have v6_17:=((hb6).2 17 _ l17).1;have v6_18:=((hb6).2 18 _ l18).1;have v6_19:=((hb6).2 19 _ l19).1;have v6_20:=((hb6).2 20 _ l20).1;have v6_21:=((hb6).2 21 _ l21).1;have hs6:Gr W w6:=hs5.trans hg6;obtain⟨sa6,sb6⟩:=hlda.out _ hs6))
    all_goals first
     | (go_ret;refine⟨fls.out ?_,(by repeat (first | with_reducible exact Gr.refl _ | with_reducible assumption | refine Gr.setCell ?_ (by first | omega | (simp;done) | (simp;omega)) _ | refine Gr.alloc ?_ _ | refine Gr.drew ?_ | refine Gr.drewN ?_ _ | refine Gr.trans ?_ (by with_reducible assumption)))⟩;clear hR HBa HBb HA HB HL HSh fls val hlda;unfold rcP;(try simp only [size_zero_iff,decide_eq_true_eq,decide_eq_false_iff_not,bne_iff_ne,ne_eq,bne_eq_false_iff_eq,beq_iff_eq,beq_eq_false_iff_ne,Bool.and_eq_true,Bool.or_eq_true,Bool.false_eq_true,not_false_eq_true,Bool.not_eq_true,Bool.not_eq_false,Bool.not_eq_true',Bool.not_eq_false',true_and,and_true,false_and,and_false,false_or,or_false,true_or,or_true] at *);omega)
     | (go_ret;refine⟨val.out _ ?_,(by repeat (first | with_reducible exact Gr.refl _ | with_reducible assumption | refine Gr.setCell ?_ (by first | omega | (simp;done) | (simp;omega)) _ | refine Gr.alloc ?_ _ | refine Gr.drew ?_ | refine Gr.drewN ?_ _ | refine Gr.trans ?_ (by with_reducible assumption)))⟩;clear hR HBa HBb HA HB HL HSh fls val hlda;unfold rcP;(try simp only [size_zero_iff,decide_eq_true_eq,decide_eq_false_iff_not,bne_iff_ne,ne_eq,bne_eq_false_iff_eq,beq_iff_eq,beq_eq_false_iff_ne,Bool.and_eq_true,Bool.or_eq_true,Bool.false_eq_true,not_false_eq_true,Bool.not_eq_true,Bool.not_eq_false,Bool.not_eq_true',Bool.not_eq_false',true_and,and_true,false_and,and_false,false_or,or_false,true_or,or_true] at *);constructor <;> intro hx <;> omega)
     | trace_state
   ·rw [show shr 2=true from by decide] at HSh
    have y1:=((hbr).2 1 _ l1).1
    refine wp_region_gr (by kernel_rfl) (by kernel_rfl) (fun hq1 hq2=>?_)
    repeat (first | go_big_quiet_skip | (go_big_quiet_want;go_big_quiet_op;first | go_big_quiet_on | (apply Exists.intro;refine⟨fun _=>?_,?_⟩;(· ((go_at_call 128;exact gr_call (HSh.out _))));go_big_quiet_on)))
    refine wpQuiet_nil ?_
    clear hq1 hq2
    rintro w9 ⟨⟨_,hg9⟩,rfl⟩
    obtain⟨hc9,hf9⟩:=hg9.cells
    have hz9:=hg9.size
    (try simp at hz9);(try have hl9_0_0:w.heap.size<w9.heap.size:=by omega);(try have hm9_0_0:w.heap.size≤w9.heap.size:=by omega);(try have hl9_0_1:w.heap.size+1<w9.heap.size:=by omega);(try have hl9_0_2:w.heap.size+2<w9.heap.size:=by omega);(try have hl9_1_0:w1.heap.size<w9.heap.size:=by omega);(try have hm9_1_0:w1.heap.size≤w9.heap.size:=by omega);(try have hl9_1_1:w1.heap.size+1<w9.heap.size:=by omega);(try have hl9_1_2:w1.heap.size+2<w9.heap.size:=by omega);(try have hl9_2_0:w2.heap.size<w9.heap.size:=by omega);(try have hm9_2_0:w2.heap.size≤w9.heap.size:=by omega);(try have hl9_2_1:w2.heap.size+1<w9.heap.size:=by omega);(try have hl9_2_2:w2.heap.size+2<w9.heap.size:=by omega);(try have hl9_3_0:w3.heap.size<w9.heap.size:=by omega);(try have hm9_3_0:w3.heap.size≤w9.heap.size:=by omega);(try have hl9_3_1:w3.heap.size+1<w9.heap.size:=by omega);(try have hl9_3_2:w3.heap.size+2<w9.heap.size:=by omega);(try have hl9_4_0:w4.heap.size<w9.heap.size:=by omega);(try have hm9_4_0:w4.heap.size≤w9.heap.size:=by omega);(try have hl9_4_1:w4.heap.size+1<w9.heap.size:=by omega);(try have hl9_4_2:w4.heap.size+2<w9.heap.size:=by omega);(try have hl9_5_0:w5.heap.size<w9.heap.size:=by omega);(try have hm9_5_0:w5.heap.size≤w9.heap.size:=by omega);(try have hl9_5_1:w5.heap.size+1<w9.heap.size:=by omega);(try have hl9_5_2:w5.heap.size+2<w9.heap.size:=by omega);(try have hl9_6_0:w6.heap.size<w9.heap.size:=by omega);(try have hm9_6_0:w6.heap.size≤w9.heap.size:=by omega);(try have hl9_6_1:w6.heap.size+1<w9.heap.size:=by omega);(try have hl9_6_2:w6.heap.size+2<w9.heap.size:=by omega);(try have hl9_7_0:w7.heap.size<w9.heap.size:=by omega);(try have hm9_7_0:w7.heap.size≤w9.heap.size:=by omega);(try have hl9_7_1:w7.heap.size+1<w9.heap.size:=by omega);(try have hl9_7_2:w7.heap.size+2<w9.heap.size:=by omega);(try have hl9_8_0:w8.heap.size<w9.heap.size:=by omega);(try have hm9_8_0:w8.heap.size≤w9.heap.size:=by omega);(try have hl9_8_1:w8.heap.size+1<w9.heap.size:=by omega);(try have hl9_8_2:w8.heap.size+2<w9.heap.size:=by omega)
    have hb9:=hbr.gr hg9
    clear yx y21 y1
    have zx:=(hb9).lt
    have z0:=((hb9).2 0 _ l0).1
    have z1:=((hb9).2 1 _ l1).1
    have z16:=((hb9).2 16 _ l16).1
    have z17:=((hb9).2 17 _ l17).1
    have z18:=((hb9).2 18 _ l18).1
    have z19:=((hb9).2 19 _ l19).1
    have z20:=((hb9).2 20 _ l20).1
    have z21:=((hb9).2 21 _ l21).1
    obtain⟨sa9,sb9⟩:=hlda.out _ (hg.trans hg9)
    go_wp2_with (first | (go_at_call 129;(with_reducible refine (HA.out _).mono ?_);rintro e w3 ⟨rfl,hg3⟩;have hb3:=hb9.gr hg3;have v3_x:=(hb3).lt;have v3_0:=((hb3).2 0 _ l0).1;have v3_1:=((hb3).2 1 _ l1).1;have v3_16:=((hb3).2 16 _ l16).1;have v3_17:=((hb3).2 17 _ l17).1;have v3_18:=((hb3).2 18 _ l18).1;have v3_19:=((hb3).2 19 _ l19).1;have v3_20:=((hb3).2 20 _ l20).1;have v3_21:=((hb3).2 21 _ l21).1;have hs3:Gr W w3:=(hg.trans hg9).trans hg3;obtain⟨sa3,sb3⟩:=hlda.out _ hs3) | (go_at_call 57;(with_reducible refine (HBa.out _).mono ?_);rintro e w3 ⟨rfl,hg3⟩;have hb3:=hb9.gr hg3;have v3_x:=(hb3).lt;have v3_0:=((hb3).2 0 _ l0).1;have v3_1:=((hb3).2 1 _ l1).1;have v3_16:=((hb3).2 16 _ l16).1;have v3_17:=((hb3).2 17 _ l17).1;have v3_18:=((hb3).2 18 _ l18).1;have v3_19:=((hb3).2 19 _ l19).1;have v3_20:=((hb3).2 20 _ l20).1;have v3_21:=((hb3).2 21 _ l21).1;have hs3:Gr W w3:=(hg.trans hg9).trans hg3;obtain⟨sa3,sb3⟩:=hlda.out _ hs3) | (go_at_call 129;(with_reducible refine (HB.out _).mono ?_);rintro e w4 ⟨rfl,hg4⟩;have hb4:=hb3.gr hg4;have v4_x:=(hb4).lt;have v4_0:=((hb4).2 0 _ l0).1;have v4_1:=((hb4).2 1 _ l1).1;have v4_16:=((hb4).2 16 _ l16).1;have v4_17:=((hb4).2 17 _ l17).1;have v4_18:=((hb4).2 18 _ l18).1;have v4_19:=((hb4).2 19 _ l19).1;have v4_20:=((hb4).2 20 _ l20).1;have v4_21:=((hb4).2 21 _ l21).1;have hs4:Gr W w4:=hs3.trans hg4;obtain⟨sa4,sb4⟩:=hlda.out _ hs4) | (go_at_call 57;(with_reducible refine (HBb.out _).mono ?_);rintro e w4 ⟨rfl,hg4⟩;have hb4:=hb3.gr hg4;have v4_x:=(hb4).lt;have v4_0:=((hb4).2 0 _ l0).1;have v4_1:=((hb4).2 1 _ l1).1;have v4_16:=((hb4).2 16 _ l16).1;have v4_17:=((hb4).2 17 _ l17).1;have v4_18:=((hb4).2 18 _ l18).1;have v4_19:=((hb4).2 19 _ l19).1;have v4_20:=((hb4).2 20 _ l20).1;have v4_21:=((hb4).2 21 _ l21).1;have hs4:Gr W w4:=hs3.trans hg4;obtain⟨sa4,sb4⟩:=hlda.out _ hs4) | (go_at_call 128;(with_reducible refine (HSh.out _).mono ?_);rintro e w5 ⟨rfl,hg5⟩;have hb5:=hb4.gr hg5;have v5_x:=(hb5).lt;have v5_0:=((hb5).2 0 _ l0).1;have v5_1:=((hb5).2 1 _ l1).1;have v5_16:=((hb5).2 16 _ l16).1;have v5_17:=((hb5).2 17 _ l17).1;have v5_18:=((hb5).2 18 _ l18).1;have v5_19:=((hb5).2 19 _ l19).1;have v5_20:=((hb5).2 20 _ l20).1;have v5_21:=((hb5).2 21 _ l21).1;have hs5:Gr W w5:=hs4.trans hg5;obtain⟨sa5,sb5⟩:=hlda.out _ hs5) | (go_at_call 39;(with_reducible refine (HL.out _).mono ?_);rintro e w6 ⟨rfl,hg6⟩;have hb6:=hb5.gr hg6;have v6_x:=(hb6).lt;have v6_0:=((hb6).2 0 _ l0).1;have v6_1:=((hb6).2 1 _ l1).1;have v6_16:=((hb6).2 16 _ l16).1;have v6_17:=((hb6).2 17 _ l17).1;have v6_18:=((hb6).2 18 _ l18).1;have v6_19:=((hb6).2 19 _ l19).1;have v6_20:=((hb6).2 20 _ l20).1;have v6_21:=((hb6).2 21 _ l21).1;have hs6:Gr W w6:=hs5.trans hg6;obtain⟨sa6,sb6⟩:=hlda.out _ hs6))
    all_goals first
     | (go_ret;refine⟨fls.out ?_,(by repeat (first | with_reducible exact Gr.refl _ | with_reducible assumption | refine Gr.setCell ?_ (by first | omega | (simp;done) | (simp;omega)) _ | refine Gr.alloc ?_ _ | refine Gr.drew ?_ | refine Gr.drewN ?_ _ | refine Gr.trans ?_ (by with_reducible assumption)))⟩;clear hR HBa HBb HA HB HL HSh fls val hlda;unfold rcP;(try simp only [size_zero_iff,decide_eq_true_eq,decide_eq_false_iff_not,bne_iff_ne,ne_eq,bne_eq_false_iff_eq,beq_iff_eq,beq_eq_false_iff_ne,Bool.and_eq_true,Bool.or_eq_true,Bool.false_eq_true,not_false_eq_true,Bool.not_eq_true,Bool.not_eq_false,Bool.not_eq_true',Bool.not_eq_false',true_and,and_true,false_and,and_false,false_or,or_false,true_or,or_true] at *);omega)
     | (go_ret;refine⟨val.out _ ?_,(by repeat (first | with_reducible exact Gr.refl _ | with_reducible assumption | refine Gr.setCell ?_ (by first | omega | (simp;done) | (simp;omega)) _ | refine Gr.alloc ?_ _ | refine Gr.drew ?_ | refine Gr.drewN ?_ _ | refine Gr.trans ?_ (by with_reducible assumption)))⟩;clear hR HBa HBb HA HB HL HSh fls val hlda;unfold rcP;(try simp only [size_zero_iff,decide_eq_true_eq,decide_eq_false_iff_not,bne_iff_ne,ne_eq,bne_eq_false_iff_eq,beq_iff_eq,beq_eq_false_iff_ne,Bool.and_eq_true,Bool.or_eq_true,Bool.false_eq_true,not_false_eq_true,Bool.not_eq_true,Bool.not_eq_false,Bool.not_eq_true',Bool.not_eq_false',true_and,and_true,false_and,and_false,false_or,or_false,true_or,or_true] at *);constructor <;> intro hx <;> omega)
     | trace_state
   ·rw [show shr 3=true from by decide] at HSh
    have y1:=((hbr).2 1 _ l1).1
    refine wp_region_gr (by kernel_rfl) (by kernel_rfl) (fun hq1 hq2=>?_)
    repeat (first | go_big_quiet_skip | (go_big_quiet_want;go_big_quiet_op;first | go_big_quiet_on | (apply Exists.intro;refine⟨fun _=>?_,?_⟩;(· ((go_at_call 128;exact gr_call (HSh.out _))));go_big_quiet_on)))
    refine wpQuiet_nil ?_
    clear hq1 hq2
    rintro w9 ⟨⟨_,hg9⟩,rfl⟩
    obtain⟨hc9,hf9⟩:=hg9.cells
    have hz9:=hg9.size
    (try simp at hz9);(try have hl9_0_0:w.heap.size<w9.heap.size:=by omega);(try have hm9_0_0:w.heap.size≤w9.heap.size:=by omega);(try have hl9_0_1:w.heap.size+1<w9.heap.size:=by omega);(try have hl9_0_2:w.heap.size+2<w9.heap.size:=by omega);(try have hl9_1_0:w1.heap.size<w9.heap.size:=by omega);(try have hm9_1_0:w1.heap.size≤w9.heap.size:=by omega);(try have hl9_1_1:w1.heap.size+1<w9.heap.size:=by omega);(try have hl9_1_2:w1.heap.size+2<w9.heap.size:=by omega);(try have hl9_2_0:w2.heap.size<w9.heap.size:=by omega);(try have hm9_2_0:w2.heap.size≤w9.heap.size:=by omega);(try have hl9_2_1:w2.heap.size+1<w9.heap.size:=by omega);(try have hl9_2_2:w2.heap.size+2<w9.heap.size:=by omega);(try have hl9_3_0:w3.heap.size<w9.heap.size:=by omega);(try have hm9_3_0:w3.heap.size≤w9.heap.size:=by omega);(try have hl9_3_1:w3.heap.size+1<w9.heap.size:=by omega);(try have hl9_3_2:w3.heap.size+2<w9.heap.size:=by omega);(try have hl9_4_0:w4.heap.size<w9.heap.size:=by omega);(try have hm9_4_0:w4.heap.size≤w9.heap.size:=by omega);(try have hl9_4_1:w4.heap.size+1<w9.heap.size:=by omega);(try have hl9_4_2:w4.heap.size+2<w9.heap.size:=by omega);(try have hl9_5_0:w5.heap.size<w9.heap.size:=by omega);(try have hm9_5_0:w5.heap.size≤w9.heap.size:=by omega);(try have hl9_5_1:w5.heap.size+1<w9.heap.size:=by omega);(try have hl9_5_2:w5.heap.size+2<w9.heap.size:=by omega);(try have hl9_6_0:w6.heap.size<w9.heap.size:=by omega);(try have hm9_6_0:w6.heap.size≤w9.heap.size:=by omega);(try have hl9_6_1:w6.heap.size+1<w9.heap.size:=by omega);(try have hl9_6_2:w6.heap.size+2<w9.heap.size:=by omega);(try have hl9_7_0:w7.heap.size<w9.heap.size:=by omega);(try have hm9_7_0:w7.heap.size≤w9.heap.size:=by omega);(try have hl9_7_1:w7.heap.size+1<w9.heap.size:=by omega);(try have hl9_7_2:w7.heap.size+2<w9.heap.size:=by omega);(try have hl9_8_0:w8.heap.size<w9.heap.size:=by omega);(try have hm9_8_0:w8.heap.size≤w9.heap.size:=by omega);(try have hl9_8_1:w8.heap.size+1<w9.heap.size:=by omega);(try have hl9_8_2:w8.heap.size+2<w9.heap.size:=by omega)
    have hb9:=hbr.gr hg9
    clear yx y21 y1
    have zx:=(hb9).lt
    have z0:=((hb9).2 0 _ l0).1
    have z1:=((hb9).2 1 _ l1).1
    have z16:=((hb9).2 16 _ l16).1
    have z17:=((hb9).2 17 _ l17).1
    have z18:=((hb9).2 18 _ l18).1
    have z19:=((hb9).2 19 _ l19).1
    have z20:=((hb9).2 20 _ l20).1
    have z21:=((hb9).2 21 _ l21).1
    obtain⟨sa9,sb9⟩:=hlda.out _ (hg.trans hg9)
    go_wp2_with (first | (go_at_call 129;(with_reducible refine (HA.out _).mono ?_);rintro e w3 ⟨rfl,hg3⟩;have hb3:=hb9.gr hg3;have v3_x:=(hb3).lt;have v3_0:=((hb3).2 0 _ l0).1;have v3_1:=((hb3).2 1 _ l1).1;have v3_16:=((hb3).2 16 _ l16).1;have v3_17:=((hb3).2 17 _ l17).1;have v3_18:=((hb3).2 18 _ l18).1;have v3_19:=((hb3).2 19 _ l19).1;have v3_20:=((hb3).2 20 _ l20).1;have v3_21:=((hb3).2 21 _ l21).1;have hs3:Gr W w3:=(hg.trans hg9).trans hg3;obtain⟨sa3,sb3⟩:=hlda.out _ hs3) | (go_at_call 57;(with_reducible refine (HBa.out _).mono ?_);rintro e w3 ⟨rfl,hg3⟩;have hb3:=hb9.gr hg3;have v3_x:=(hb3).lt;have v3_0:=((hb3).2 0 _ l0).1;have v3_1:=((hb3).2 1 _ l1).1;have v3_16:=((hb3).2 16 _ l16).1;have v3_17:=((hb3).2 17 _ l17).1;have v3_18:=((hb3).2 18 _ l18).1;have v3_19:=((hb3).2 19 _ l19).1;have v3_20:=((hb3).2 20 _ l20).1;have v3_21:=((hb3).2 21 _ l21).1;have hs3:Gr W w3:=(hg.trans hg9).trans hg3;obtain⟨sa3,sb3⟩:=hlda.out _ hs3) | (go_at_call 129;(with_reducible refine (HB.out _).mono ?_);rintro e w4 ⟨rfl,hg4⟩;have hb4:=hb3.gr hg4;have v4_x:=(hb4).lt;have v4_0:=((hb4).2 0 _ l0).1;have v4_1:=((hb4).2 1 _ l1).1;have v4_16:=((hb4).2 16 _ l16).1;have v4_17:=((hb4).2 17 _ l17).1;have v4_18:=((hb4).2 18 _ l18).1;have v4_19:=((hb4).2 19 _ l19).1;have v4_20:=((hb4).2 20 _ l20).1;have v4_21:=((hb4).2 21 _ l21).1;have hs4:Gr W w4:=hs3.trans hg4;obtain⟨sa4,sb4⟩:=hlda.out _ hs4) | (go_at_call 57;(with_reducible refine (HBb.out _).mono ?_);rintro e w4 ⟨rfl,hg4⟩;have hb4:=hb3.gr hg4;have v4_x:=(hb4).lt;have v4_0:=((hb4).2 0 _ l0).1;have v4_1:=((hb4).2 1 _ l1).1;have v4_16:=((hb4).2 16 _ l16).1;have v4_17:=((hb4).2 17 _ l17).1;have v4_18:=((hb4).2 18 _ l18).1;have v4_19:=((hb4).2 19 _ l19).1;have v4_20:=((hb4).2 20 _ l20).1;have v4_21:=((hb4).2 21 _ l21).1;have hs4:Gr W w4:=hs3.trans hg4;obtain⟨sa4,sb4⟩:=hlda.out _ hs4) | (go_at_call 128;(with_reducible refine (HSh.out _).mono ?_);rintro e w5 ⟨rfl,hg5⟩;have hb5:=hb4.gr hg5;have v5_x:=(hb5).lt;have v5_0:=((hb5).2 0 _ l0).1;have v5_1:=((hb5).2 1 _ l1).1;have v5_16:=((hb5).2 16 _ l16).1;have v5_17:=((hb5).2 17 _ l17).1;have v5_18:=((hb5).2 18 _ l18).1;have v5_19:=((hb5).2 19 _ l19).1;have v5_20:=((hb5).2 20 _ l20).1;have v5_21:=((hb5).2 21 _ l21).1;have hs5:Gr W w5:=hs4.trans hg5;obtain⟨sa5,sb5⟩:=hlda.out _ hs5) | (go_at_call 39;(with_reducible refine (HL.out _).mono ?_);rintro e w6 ⟨rfl,hg6⟩;have hb6:=hb5.gr hg6;have v6_x:=(hb6).lt;have v6_0:=((hb6).2 0 _ l0).1;have v6_1:=((hb6).2 1 _ l1).1;have v6_16:=((hb6).2 16 _ l16).1;have v6_17:=((hb6).2 17 _ l17).1;have v6_18:=((hb6).2 18 _ l18).1;have v6_19:=((hb6).2 19 _ l19).1;have v6_20:=((hb6).2 20 _ l20).1;have v6_21:=((hb6).2 21 _ l21).1;have hs6:Gr W w6:=hs5.trans hg6;obtain⟨sa6,sb6⟩:=hlda.out _ hs6))
    all_goals first
     | (go_ret;refine⟨fls.out ?_,(by repeat (first | with_reducible exact Gr.refl _ | with_reducible assumption | refine Gr.setCell ?_ (by first | omega | (simp;done) | (simp;omega)) _ | refine Gr.alloc ?_ _ | refine Gr.drew ?_ | refine Gr.drewN ?_ _ | refine Gr.trans ?_ (by with_reducible assumption)))⟩;clear hR HBa HBb HA HB HL HSh fls val hlda;unfold rcP;(try simp only [size_zero_iff,decide_eq_true_eq,decide_eq_false_iff_not,bne_iff_ne,ne_eq,bne_eq_false_iff_eq,beq_iff_eq,beq_eq_false_iff_ne,Bool.and_eq_true,Bool.or_eq_true,Bool.false_eq_true,not_false_eq_true,Bool.not_eq_true,Bool.not_eq_false,Bool.not_eq_true',Bool.not_eq_false',true_and,and_true,false_and,and_false,false_or,or_false,true_or,or_true] at *);omega)
     | (go_ret;refine⟨val.out _ ?_,(by repeat (first | with_reducible exact Gr.refl _ | with_reducible assumption | refine Gr.setCell ?_ (by first | omega | (simp;done) | (simp;omega)) _ | refine Gr.alloc ?_ _ | refine Gr.drew ?_ | refine Gr.drewN ?_ _ | refine Gr.trans ?_ (by with_reducible assumption)))⟩;clear hR HBa HBb HA HB HL HSh fls val hlda;unfold rcP;(try simp only [size_zero_iff,decide_eq_true_eq,decide_eq_false_iff_not,bne_iff_ne,ne_eq,bne_eq_false_iff_eq,beq_iff_eq,beq_eq_false_iff_ne,Bool.and_eq_true,Bool.or_eq_true,Bool.false_eq_true,not_false_eq_true,Bool.not_eq_true,Bool.not_eq_false,Bool.not_eq_true',Bool.not_eq_false',true_and,and_true,false_and,and_false,false_or,or_false,true_or,or_true] at *);constructor <;> intro hx <;> omega)
     | trace_state
   ·rw [show shr 4=false from by decide] at HSh
    have y1:=((hbr).2 1 _ l1).1
    refine wp_region_gr (by kernel_rfl) (by kernel_rfl) (fun hq1 hq2=>?_)
    repeat (first | go_big_quiet_skip | (go_big_quiet_want;go_big_quiet_op;first | go_big_quiet_on | (apply Exists.intro;refine⟨fun _=>?_,?_⟩;(· ((go_at_call 128;exact gr_call (HSh.out _))));go_big_quiet_on)))
    refine wpQuiet_nil ?_
    clear hq1 hq2
    rintro w9 ⟨⟨_,hg9⟩,rfl⟩
    obtain⟨hc9,hf9⟩:=hg9.cells
    have hz9:=hg9.size
    (try simp at hz9);(try have hl9_0_0:w.heap.size<w9.heap.size:=by omega);(try have hm9_0_0:w.heap.size≤w9.heap.size:=by omega);(try have hl9_0_1:w.heap.size+1<w9.heap.size:=by omega);(try have hl9_0_2:w.heap.size+2<w9.heap.size:=by omega);(try have hl9_1_0:w1.heap.size<w9.heap.size:=by omega);(try have hm9_1_0:w1.heap.size≤w9.heap.size:=by omega);(try have hl9_1_1:w1.heap.size+1<w9.heap.size:=by omega);(try have hl9_1_2:w1.heap.size+2<w9.heap.size:=by omega);(try have hl9_2_0:w2.heap.size<w9.heap.size:=by omega);(try have hm9_2_0:w2.heap.size≤w9.heap.size:=by omega);(try have hl9_2_1:w2.heap.size+1<w9.heap.size:=by omega);(try have hl9_2_2:w2.heap.size+2<w9.heap.size:=by omega);(try have hl9_3_0:w3.heap.size<w9.heap.size:=by omega);(try have hm9_3_0:w3.heap.size≤w9.heap.size:=by omega);(try have hl9_3_1:w3.heap.size+1<w9.heap.size:=by omega);(try have hl9_3_2:w3.heap.size+2<w9.heap.size:=by omega);(try have hl9_4_0:w4.heap.size<w9.heap.size:=by omega);(try have hm9_4_0:w4.heap.size≤w9.heap.size:=by omega);(try have hl9_4_1:w4.heap.size+1<w9.heap.size:=by omega);(try have hl9_4_2:w4.heap.size+2<w9.heap.size:=by omega);(try have hl9_5_0:w5.heap.size<w9.heap.size:=by omega);(try have hm9_5_0:w5.heap.size≤w9.heap.size:=by omega);(try have hl9_5_1:w5.heap.size+1<w9.heap.size:=by omega);(try have hl9_5_2:w5.heap.size+2<w9.heap.size:=by omega);(try have hl9_6_0:w6.heap.size<w9.heap.size:=by omega);(try have hm9_6_0:w6.heap.size≤w9.heap.size:=by omega);(try have hl9_6_1:w6.heap.size+1<w9.heap.size:=by omega);(try have hl9_6_2:w6.heap.size+2<w9.heap.size:=by omega);(try have hl9_7_0:w7.heap.size<w9.heap.size:=by omega);(try have hm9_7_0:w7.heap.size≤w9.heap.size:=by omega);(try have hl9_7_1:w7.heap.size+1<w9.heap.size:=by omega);(try have hl9_7_2:w7.heap.size+2<w9.heap.size:=by omega);(try have hl9_8_0:w8.heap.size<w9.heap.size:=by omega);(try have hm9_8_0:w8.heap.size≤w9.heap.size:=by omega);(try have hl9_8_1:w8.heap.size+1<w9.heap.size:=by omega);(try have hl9_8_2:w8.heap.size+2<w9.heap.size:=by omega)
    have hb9:=hbr.gr hg9
    clear yx y21 y1
    have zx:=(hb9).lt
    have z0:=((hb9).2 0 _ l0).1
    have z1:=((hb9).2 1 _ l1).1
    have z16:=((hb9).2 16 _ l16).1
    have z17:=((hb9).2 17 _ l17).1
    have z18:=((hb9).2 18 _ l18).1
    have z19:=((hb9).2 19 _ l19).1
    have z20:=((hb9).2 20 _ l20).1
    have z21:=((hb9).2 21 _ l21).1
    obtain⟨sa9,sb9⟩:=hlda.out _ (hg.trans hg9)
    go_wp2_with (first | (go_at_call 129;(with_reducible refine (HA.out _).mono ?_);rintro e w3 ⟨rfl,hg3⟩;have hb3:=hb9.gr hg3;have v3_x:=(hb3).lt;have v3_0:=((hb3).2 0 _ l0).1;have v3_1:=((hb3).2 1 _ l1).1;have v3_16:=((hb3).2 16 _ l16).1;have v3_17:=((hb3).2 17 _ l17).1;have v3_18:=((hb3).2 18 _ l18).1;have v3_19:=((hb3).2 19 _ l19).1;have v3_20:=((hb3).2 20 _ l20).1;have v3_21:=((hb3).2 21 _ l21).1;have hs3:Gr W w3:=(hg.trans hg9).trans hg3;obtain⟨sa3,sb3⟩:=hlda.out _ hs3) | (go_at_call 57;(with_reducible refine (HBa.out _).mono ?_);rintro e w3 ⟨rfl,hg3⟩;have hb3:=hb9.gr hg3;have v3_x:=(hb3).lt;have v3_0:=((hb3).2 0 _ l0).1;have v3_1:=((hb3).2 1 _ l1).1;have v3_16:=((hb3).2 16 _ l16).1;have v3_17:=((hb3).2 17 _ l17).1;have v3_18:=((hb3).2 18 _ l18).1;have v3_19:=((hb3).2 19 _ l19).1;have v3_20:=((hb3).2 20 _ l20).1;have v3_21:=((hb3).2 21 _ l21).1;have hs3:Gr W w3:=(hg.trans hg9).trans hg3;obtain⟨sa3,sb3⟩:=hlda.out _ hs3) | (go_at_call 129;(with_reducible refine (HB.out _).mono ?_);rintro e w4 ⟨rfl,hg4⟩;have hb4:=hb3.gr hg4;have v4_x:=(hb4).lt;have v4_0:=((hb4).2 0 _ l0).1;have v4_1:=((hb4).2 1 _ l1).1;have v4_16:=((hb4).2 16 _ l16).1;have v4_17:=((hb4).2 17 _ l17).1;have v4_18:=((hb4).2 18 _ l18).1;have v4_19:=((hb4).2 19 _ l19).1;have v4_20:=((hb4).2 20 _ l20).1;have v4_21:=((hb4).2 21 _ l21).1;have hs4:Gr W w4:=hs3.trans hg4;obtain⟨sa4,sb4⟩:=hlda.out _ hs4) | (go_at_call 57;(with_reducible refine (HBb.out _).mono ?_);rintro e w4 ⟨rfl,hg4⟩;have hb4:=hb3.gr hg4;have v4_x:=(hb4).lt;have v4_0:=((hb4).2 0 _ l0).1;have v4_1:=((hb4).2 1 _ l1).1;have v4_16:=((hb4).2 16 _ l16).1;have v4_17:=((hb4).2 17 _ l17).1;have v4_18:=((hb4).2 18 _ l18).1;have v4_19:=((hb4).2 19 _ l19).1;have v4_20:=((hb4).2 20 _ l20).1;have v4_21:=((hb4).2 21 _ l21).1;have hs4:Gr W w4:=hs3.trans hg4;obtain⟨sa4,sb4⟩:=hlda.out _ hs4) | (go_at_call 128;(with_reducible refine (HSh.out _).mono ?_);rintro e w5 ⟨rfl,hg5⟩;have hb5:=hb4.gr hg5;have v5_x:=(hb5).lt;have v5_0:=((hb5).2 0 _ l0).1;have v5_1:=((hb5).2 1 _ l1).1;have v5_16:=((hb5).2 16 _ l16).1;have v5_17:=((hb5).2 17 _ l17).1;have v5_18:=((hb5).2 18 _ l18).1;have v5_19:=((hb5).2 19 _ l19).1;have v5_20:=((hb5).2 20 _ l20).1;have v5_21:=((hb5).2 21 _ l21).1;have hs5:Gr W w5:=hs4.trans hg5;obtain⟨sa5,sb5⟩:=hlda.out _ hs5) | (go_at_call 39;(with_reducible refine (HL.out _).mono ?_);rintro e w6 ⟨rfl,hg6⟩;have hb6:=hb5.gr hg6;have v6_x:=(hb6).lt;have v6_0:=((hb6).2 0 _ l0).1;have v6_1:=((hb6).2 1 _ l1).1;have v6_16:=((hb6).2 16 _ l16).1;have v6_17:=((hb6).2 17 _ l17).1;have v6_18:=((hb6).2 18 _ l18).1;have v6_19:=((hb6).2 19 _ l19).1;have v6_20:=((hb6).2 20 _ l20).1;have v6_21:=((hb6).2 21 _ l21).1;have hs6:Gr W w6:=hs5.trans hg6;obtain⟨sa6,sb6⟩:=hlda.out _ hs6))
    all_goals first
     | (go_ret;refine⟨fls.out ?_,(by repeat (first | with_reducible exact Gr.refl _ | with_reducible assumption | refine Gr.setCell ?_ (by first | omega | (simp;done) | (simp;omega)) _ | refine Gr.alloc ?_ _ | refine Gr.drew ?_ | refine Gr.drewN ?_ _ | refine Gr.trans ?_ (by with_reducible assumption)))⟩;clear hR HBa HBb HA HB HL HSh fls val hlda;unfold rcP;(try simp only [size_zero_iff,decide_eq_true_eq,decide_eq_false_iff_not,bne_iff_ne,ne_eq,bne_eq_false_iff_eq,beq_iff_eq,beq_eq_false_iff_ne,Bool.and_eq_true,Bool.or_eq_true,Bool.false_eq_true,not_false_eq_true,Bool.not_eq_true,Bool.not_eq_false,Bool.not_eq_true',Bool.not_eq_false',true_and,and_true,false_and,and_false,false_or,or_false,true_or,or_true] at *);omega)
     | (go_ret;refine⟨val.out _ ?_,(by repeat (first | with_reducible exact Gr.refl _ | with_reducible assumption | refine Gr.setCell ?_ (by first | omega | (simp;done) | (simp;omega)) _ | refine Gr.alloc ?_ _ | refine Gr.drew ?_ | refine Gr.drewN ?_ _ | refine Gr.trans ?_ (by with_reducible assumption)))⟩;clear hR HBa HBb HA HB HL HSh fls val hlda;unfold rcP;(try simp only [size_zero_iff,decide_eq_true_eq,decide_eq_false_iff_not,bne_iff_ne,ne_eq,bne_eq_false_iff_eq,beq_iff_eq,beq_eq_false_iff_ne,Bool.and_eq_true,Bool.or_eq_true,Bool.false_eq_true,not_false_eq_true,Bool.not_eq_true,Bool.not_eq_false,Bool.not_eq_true',Bool.not_eq_false',true_and,and_true,false_and,and_false,false_or,or_false,true_or,or_true] at *);constructor <;> intro hx <;> omega)
     | trace_state
   ·rw [show shr 5=false from by decide] at HSh
    have y1:=((hbr).2 1 _ l1).1
    refine wp_region_gr (by kernel_rfl) (by kernel_rfl) (fun hq1 hq2=>?_)
    repeat (first | go_big_quiet_skip | (go_big_quiet_want;go_big_quiet_op;first | go_big_quiet_on | (apply Exists.intro;refine⟨fun _=>?_,?_⟩;(· ((go_at_call 128;exact gr_call (HSh.out _))));go_big_quiet_on)))
    refine wpQuiet_nil ?_
    clear hq1 hq2
    rintro w9 ⟨⟨_,hg9⟩,rfl⟩
    obtain⟨hc9,hf9⟩:=hg9.cells
    have hz9:=hg9.size
    (try simp at hz9);(try have hl9_0_0:w.heap.size<w9.heap.size:=by omega);(try have hm9_0_0:w.heap.size≤w9.heap.size:=by omega);(try have hl9_0_1:w.heap.size+1<w9.heap.size:=by omega);(try have hl9_0_2:w.heap.size+2<w9.heap.size:=by omega);(try have hl9_1_0:w1.heap.size<w9.heap.size:=by omega);(try have hm9_1_0:w1.heap.size≤w9.heap.size:=by omega);(try have hl9_1_1:w1.heap.size+1<w9.heap.size:=by omega);(try have hl9_1_2:w1.heap.size+2<w9.heap.size:=by omega);(try have hl9_2_0:w2.heap.size<w9.heap.size:=by omega);(try have hm9_2_0:w2.heap.size≤w9.heap.size:=by omega);(try have hl9_2_1:w2.heap.size+1<w9.heap.size:=by omega);(try have hl9_2_2:w2.heap.size+2<w9.heap.size:=by omega);(try have hl9_3_0:w3.heap.size<w9.heap.size:=by omega);(try have hm9_3_0:w3.heap.size≤w9.heap.size:=by omega);(try have hl9_3_1:w3.heap.size+1<w9.heap.size:=by omega);(try have hl9_3_2:w3.heap.size+2<w9.heap.size:=by omega);(try have hl9_4_0:w4.heap.size<w9.heap.size:=by omega);(try have hm9_4_0:w4.heap.size≤w9.heap.size:=by omega);(try have hl9_4_1:w4.heap.size+1<w9.heap.size:=by omega);(try have hl9_4_2:w4.heap.size+2<w9.heap.size:=by omega);(try have hl9_5_0:w5.heap.size<w9.heap.size:=by omega);(try have hm9_5_0:w5.heap.size≤w9.heap.size:=by omega);(try have hl9_5_1:w5.heap.size+1<w9.heap.size:=by omega);(try have hl9_5_2:w5.heap.size+2<w9.heap.size:=by omega);(try have hl9_6_0:w6.heap.size<w9.heap.size:=by omega);(try have hm9_6_0:w6.heap.size≤w9.heap.size:=by omega);(try have hl9_6_1:w6.heap.size+1<w9.heap.size:=by omega);(try have hl9_6_2:w6.heap.size+2<w9.heap.size:=by omega);(try have hl9_7_0:w7.heap.size<w9.heap.size:=by omega);(try have hm9_7_0:w7.heap.size≤w9.heap.size:=by omega);(try have hl9_7_1:w7.heap.size+1<w9.heap.size:=by omega);(try have hl9_7_2:w7.heap.size+2<w9.heap.size:=by omega);(try have hl9_8_0:w8.heap.size<w9.heap.size:=by omega);(try have hm9_8_0:w8.heap.size≤w9.heap.size:=by omega);(try have hl9_8_1:w8.heap.size+1<w9.heap.size:=by omega);(try have hl9_8_2:w8.heap.size+2<w9.heap.size:=by omega)
    have hb9:=hbr.gr hg9
    clear yx y21 y1
    have zx:=(hb9).lt
    have z0:=((hb9).2 0 _ l0).1
    have z1:=((hb9).2 1 _ l1).1
    have z16:=((hb9).2 16 _ l16).1
    have z17:=((hb9).2 17 _ l17).1
    have z18:=((hb9).2 18 _ l18).1
    have z19:=((hb9).2 19 _ l19).1
    have z20:=((hb9).2 20 _ l20).1
    have z21:=((hb9).2 21 _ l21).1
    obtain⟨sa9,sb9⟩:=hlda.out _ (hg.trans hg9)
    go_wp2_with (first | (go_at_call 129;(with_reducible refine (HA.out _).mono ?_);rintro e w3 ⟨rfl,hg3⟩;have hb3:=hb9.gr hg3;have v3_x:=(hb3).lt;have v3_0:=((hb3).2 0 _ l0).1;have v3_1:=((hb3).2 1 _ l1).1;have v3_16:=((hb3).2 16 _ l16).1;have v3_17:=((hb3).2 17 _ l17).1;have v3_18:=((hb3).2 18 _ l18).1;have v3_19:=((hb3).2 19 _ l19).1;have v3_20:=((hb3).2 20 _ l20).1;have v3_21:=((hb3).2 21 _ l21).1;have hs3:Gr W w3:=(hg.trans hg9).trans hg3;obtain⟨sa3,sb3⟩:=hlda.out _ hs3) | (go_at_call 57;(with_reducible refine (HBa.out _).mono ?_);rintro e w3 ⟨rfl,hg3⟩;have hb3:=hb9.gr hg3;have v3_x:=(hb3).lt;have v3_0:=((hb3).2 0 _ l0).1;have v3_1:=((hb3).2 1 _ l1).1;have v3_16:=((hb3).2 16 _ l16).1;have v3_17:=((hb3).2 17 _ l17).1;have v3_18:=((hb3).2 18 _ l18).1;have v3_19:=((hb3).2 19 _ l19).1;have v3_20:=((hb3).2 20 _ l20).1;have v3_21:=((hb3).2 21 _ l21).1;have hs3:Gr W w3:=(hg.trans hg9).trans hg3;obtain⟨sa3,sb3⟩:=hlda.out _ hs3) | (go_at_call 129;(with_reducible refine (HB.out _).mono ?_);rintro e w4 ⟨rfl,hg4⟩;have hb4:=hb3.gr hg4;have v4_x:=(hb4).lt;have v4_0:=((hb4).2 0 _ l0).1;have v4_1:=((hb4).2 1 _ l1).1;have v4_16:=((hb4).2 16 _ l16).1;have v4_17:=((hb4).2 17 _ l17).1;have v4_18:=((hb4).2 18 _ l18).1;have v4_19:=((hb4).2 19 _ l19).1;have v4_20:=((hb4).2 20 _ l20).1;have v4_21:=((hb4).2 21 _ l21).1;have hs4:Gr W w4:=hs3.trans hg4;obtain⟨sa4,sb4⟩:=hlda.out _ hs4) | (go_at_call 57;(with_reducible refine (HBb.out _).mono ?_);rintro e w4 ⟨rfl,hg4⟩;have hb4:=hb3.gr hg4;have v4_x:=(hb4).lt;have v4_0:=((hb4).2 0 _ l0).1;have v4_1:=((hb4).2 1 _ l1).1;have v4_16:=((hb4).2 16 _ l16).1;have v4_17:=((hb4).2 17 _ l17).1;have v4_18:=((hb4).2 18 _ l18).1;have v4_19:=((hb4).2 19 _ l19).1;have v4_20:=((hb4).2 20 _ l20).1;have v4_21:=((hb4).2 21 _ l21).1;have hs4:Gr W w4:=hs3.trans hg4;obtain⟨sa4,sb4⟩:=hlda.out _ hs4) | (go_at_call 128;(with_reducible refine (HSh.out _).mono ?_);rintro e w5 ⟨rfl,hg5⟩;have hb5:=hb4.gr hg5;have v5_x:=(hb5).lt;have v5_0:=((hb5).2 0 _ l0).1;have v5_1:=((hb5).2 1 _ l1).1;have v5_16:=((hb5).2 16 _ l16).1;have v5_17:=((hb5).2 17 _ l17).1;have v5_18:=((hb5).2 18 _ l18).1;have v5_19:=((hb5).2 19 _ l19).1;have v5_20:=((hb5).2 20 _ l20).1;have v5_21:=((hb5).2 21 _ l21).1;have hs5:Gr W w5:=hs4.trans hg5;obtain⟨sa5,sb5⟩:=hlda.out _ hs5) | (go_at_call 39;(with_reducible refine (HL.out _).mono ?_);rintro e w6 ⟨rfl,hg6⟩;have hb6:=hb5.gr hg6;have v6_x:=(hb6).lt;have v6_0:=((hb6).2 0 _ l0).1;have v6_1:=((hb6).2 1 _ l1).1;have v6_16:=((hb6).2 16 _ l16).1;have v6_17:=((hb6).2 17 _ l17).1;have v6_18:=((hb6).2 18 _ l18).1;have v6_19:=((hb6).2 19 _ l19).1;have v6_20:=((hb6).2 20 _ l20).1;have v6_21:=((hb6).2 21 _ l21).1;have hs6:Gr W w6:=hs5.trans hg6;obtain⟨sa6,sb6⟩:=hlda.out _ hs6))
    all_goals first
     | (go_ret;refine⟨fls.out ?_,(by repeat (first | with_reducible exact Gr.refl _ | with_reducible assumption | refine Gr.setCell ?_ (by first | omega | (simp;done) | (simp;omega)) _ | refine Gr.alloc ?_ _ | refine Gr.drew ?_ | refine Gr.drewN ?_ _ | refine Gr.trans ?_ (by with_reducible assumption)))⟩;clear hR HBa HBb HA HB HL HSh fls val hlda;unfold rcP;(try simp only [size_zero_iff,decide_eq_true_eq,decide_eq_false_iff_not,bne_iff_ne,ne_eq,bne_eq_false_iff_eq,beq_iff_eq,beq_eq_false_iff_ne,Bool.and_eq_true,Bool.or_eq_true,Bool.false_eq_true,not_false_eq_true,Bool.not_eq_true,Bool.not_eq_false,Bool.not_eq_true',Bool.not_eq_false',true_and,and_true,false_and,and_false,false_or,or_false,true_or,or_true] at *);omega)
     | (go_ret;refine⟨val.out _ ?_,(by repeat (first | with_reducible exact Gr.refl _ | with_reducible assumption | refine Gr.setCell ?_ (by first | omega | (simp;done) | (simp;omega)) _ | refine Gr.alloc ?_ _ | refine Gr.drew ?_ | refine Gr.drewN ?_ _ | refine Gr.trans ?_ (by with_reducible assumption)))⟩;clear hR HBa HBb HA HB HL HSh fls val hlda;unfold rcP;(try simp only [size_zero_iff,decide_eq_true_eq,decide_eq_false_iff_not,bne_iff_ne,ne_eq,bne_eq_false_iff_eq,beq_iff_eq,beq_eq_false_iff_ne,Bool.and_eq_true,Bool.or_eq_true,Bool.false_eq_true,not_false_eq_true,Bool.not_eq_true,Bool.not_eq_false,Bool.not_eq_true',Bool.not_eq_false',true_and,and_true,false_and,and_false,false_or,or_false,true_or,or_true] at *);constructor <;> intro hx <;> omega)
     | trace_state
theorem rvclip_any (m:CM) (w:World) (hm:ClOk m.c) (hch:ChR w m):Calls Tryz.prog 96 #[m.val] w fun e w'=>e=.returned (.bool (vcB m.c))∧Gr w w':=rvclip_core 7 rfl m w hm hch
end Go.Proofs.YtgbiodnfpbhjiaaGreatDoor
