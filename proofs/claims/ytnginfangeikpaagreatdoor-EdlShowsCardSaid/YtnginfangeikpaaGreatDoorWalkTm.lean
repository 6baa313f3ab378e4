/-
  Contract of ValidClip of package timeline.
  Conditions: the clip's channels lie in memory; its numbers are 64-bit numbers.
-/
import Derived.Test.YtnginfangeikpaaGreatDoorWalkTf
import Derived.Test.YtnginfangeikpaaGreatDoorShS
import Derived.Test.YtnginfangeikpaaGreatDoorWalkTl
import Derived.Test.YtnginfangeikpaaGreatDoorWalkTd
namespace Go.Proofs.YtnginfangeikpaaGreatDoor
open Go.RowKit Go.Lib
set_option linter.unusedSimpArgs false
set_option linter.unusedVariables false
structure ClOk (c:Cl):Prop where
 len:I64 c.len
 kind:I64 c.kind
 a:SrOk c.a
 b:SrOk c.b
 off:I64 c.off
 tot:I64 c.tot
 par:I64 c.par
 tx:c.tx.size≤140737488355328
 gain:I64 c.gain
 ch:c.ch.length * 8≤140737488355328
def baseB (c:Cl):Bool:=decide (1≤c.len) && (decide (c.len≤2147483647) && (decide (0≤c.gain) && (decide (c.gain≤65536) && (chB c.ch && (vsB c.a && vsB c.b)))))
def noS (c:Cl):Bool:=decide (c.off=0) && decide (c.tot=0)
def shS (c:Cl):Bool:=decide (0≤c.off) && (decide (c.len≤c.tot) && (decide (c.tot≤2147483647) && decide (c.off≤c.tot - c.len)))
def kdC (c:Cl):Bool:=
 if c.kind=0 then decide (c.a=blkS) && (decide (c.b=blkS) && (noS c && (decide (c.par=0) && (decide (c.tx=noTx) && (decide (c.gain=0) && decide (c.ch=[]))))))
 else if c.kind=1 then decide (c.b=blkS) && (noS c && (decide (c.par=0) && decide (c.tx=noTx)))
 else if c.kind=2 then shS c && (decide (c.par=0) && decide (c.tx=noTx))
 else if c.kind=3 then shS c && (decide (0≤c.par) && (decide (c.par≤3) && decide (c.tx=noTx)))
 else if c.kind=4 then noS c && (decide (0≤c.par) && (decide (c.par≤255) && decide (c.tx=noTx)))
 else if c.kind=5 then decide (c.b=blkS) && (noS c && (decide (c.par=0) && vLine c.tx))
 else false
def vcB (c:Cl):Bool:=baseB c && kdC c
set_option maxRecDepth 20000 in
set_option maxHeartbeats 8000000 in
theorem vclip_core (k7:Nat) (hk7:7=k7) (m:CM) (w:World) (hm:ClOk m.c) (hch:ChR w m):Calls Tryz.prog 59 #[m.val] w fun e w'=>e=.returned (.bool (vcB m.c))∧Gr w w':=by
 obtain⟨g1,g2,ga,gb,g3,g4,g5,g6,g7,g8⟩:=hm
 obtain⟨⟨len,kind,a,b,off,tot,par,tx,gain,ch⟩,cv⟩:=m
 obtain⟨ca,cc,hcv⟩:=hch.slice
 simp only at g1 g2 ga gb g3 g4 g5 g6 g7 g8 hcv
 subst hcv
 have hea:=eq_blk a
 have heb:=eq_blk b
 have HA:Hid (∀ w',Calls Tryz.prog 84 #[a.val] w' fun e w''=>e=.returned (.bool (vsB a))∧Gr w' w''):=Lib.hid fun w'=>vsource_any a w' ga
 have HB:Hid (∀ w',Calls Tryz.prog 84 #[b.val] w' fun e w''=>e=.returned (.bool (vsB b))∧Gr w' w''):=Lib.hid fun w'=>vsource_any b w' gb
 have HC:Hid (∀ w',Gr w w'→Calls Tryz.prog 83 #[.slice ca ch.length cc] w' fun e w''=>e=.returned (.bool (chB ch))∧Gr w' w''):=Lib.hid fun w' hg=>vchan_any _ ch w' (Rd.gr hg hch)
 have HL:Hid (∀ w',Calls Tryz.prog 85 #[.string tx] w' fun e w''=>e=.returned (.bool (vLine tx))∧Gr w' w''):=Lib.hid fun w'=>validLine_any tx w' g6
 have htx:(tx.toList.isEmpty=true)↔tx=noTx:=by rw [ByteArray.toList_eq,List.isEmpty_iff];exact⟨fun h=>ba_ext h,fun h=>by rw [h]⟩
 obtain⟨R,hR⟩:∃ R,vcB ⟨len,kind,a,b,off,tot,par,tx,gain,ch⟩=R:=⟨_,rfl⟩
 rw [hR]
 unfold vcB baseB kdC noS shS at hR
 simp only at hR
 have aE7:∀ w,(isAgg 59).run Tryz.prog w=.ok true w:=Tryz.isAgg59
 have zE7:∀ w,(Go.sizeOf 59).run Tryz.prog w=.ok k7 w:=fun w=>by rw [← hk7];exact Tryz.sizeOf59 w
 unfold CM.val
 obtain⟨l,hl⟩:∃ l,(CM.mk ⟨len,kind,a,b,off,tot,par,tx,gain,ch⟩ (.slice ca ch.length cc)).cells=l:=⟨_,rfl⟩
 rw [hl]
 have l0:l[0]?=some (.int .i64 len):=by rw [← hl];rfl
 have l1:l[1]?=some (.int .i64 kind):=by rw [← hl];rfl
 have l16:l[16]?=some (.int .i64 off):=by rw [← hl];rfl
 have l17:l[17]?=some (.int .i64 tot):=by rw [← hl];rfl
 have l18:l[18]?=some (.int .i64 par):=by rw [← hl];rfl
 have l19:l[19]?=some (.string tx):=by rw [← hl];rfl
 have l20:l[20]?=some (.int .i64 gain):=by rw [← hl];rfl
 have l21:l[21]?=some (.slice ca ch.length cc):=by rw [← hl];rfl
 have la:∀ j u,a.cells[j]?=some u→l[2+j]?=some u:=fun j u hu=>by
  rw [← hl]
  have hj:j<7:=(List.getElem?_eq_some_iff.1 hu).1
  rcases (show j=0∨j=1∨j=2∨j=3∨j=4∨j=5∨j=6 by omega) with rfl | rfl | rfl | rfl | rfl | rfl | rfl <;> exact hu
 have lb:∀ j u,b.cells[j]?=some u→l[9+j]?=some u:=fun j u hu=>by
  rw [← hl]
  have hj:j<7:=(List.getElem?_eq_some_iff.1 hu).1
  rcases (show j=0∨j=1∨j=2∨j=3∨j=4∨j=5∨j=6 by omega) with rfl | rfl | rfl | rfl | rfl | rfl | rfl <;> exact hu
 clear hl
 have hbx:=Cel.new w l.toArray 61
 have hgA:=(Gr.refl w).alloc (.cells l.toArray 61)
 rw [show a.val=.agg a.cells.toArray from rfl] at hea HA
 rw [show b.val=.agg b.cells.toArray from rfl] at heb HB
 have hka:a.cells.length=k7:=by rw [← hk7];rfl
 have hkb:b.cells.length=k7:=by rw [← hk7];rfl
 obtain⟨A,hA⟩:∃ A,a.cells=A:=⟨_,rfl⟩
 obtain⟨B,hB⟩:∃ B,b.cells=B:=⟨_,rfl⟩
 obtain⟨Ra,hRa⟩:∃ Ra,decide (a=blkS)=Ra:=⟨_,rfl⟩
 obtain⟨Rb,hRb⟩:∃ Rb,decide (b=blkS)=Rb:=⟨_,rfl⟩
 obtain⟨Va,hVa⟩:∃ Va,vsB a=Va:=⟨_,rfl⟩
 obtain⟨Vb,hVb⟩:∃ Vb,vsB b=Vb:=⟨_,rfl⟩
 obtain⟨Vc,hVc⟩:∃ Vc,chB ch=Vc:=⟨_,rfl⟩
 obtain⟨Vl,hVl⟩:∃ Vl,vLine tx=Vl:=⟨_,rfl⟩
 rw [hA,hRa] at hea
 rw [hA,hVa] at HA
 rw [hB,hRb] at heb
 rw [hB,hVb] at HB
 rw [hVc] at HC
 rw [hVl] at HL
 rw [hRa,hRb,hVa,hVb,hVc,hVl] at hR
 rw [hA] at hka la
 rw [hB] at hkb lb
 clear hRa hRb hVa hVb hVc hVl hA hB
 have hlda:Hid (∀ wx,Gr (w.alloc (.cells l.toArray 61)) wx→Sem.run Tryz.prog (loadCellsFrom ⟨w.heap.size,2,none⟩ 0 k7 #[]) wx=.ok A.toArray wx∧Sem.run Tryz.prog (loadCellsFrom ⟨w.heap.size,9,none⟩ 0 k7 #[]) wx=.ok B.toArray wx):=Lib.hid fun wx hg=>⟨ld_row hka fun j u hu=>((hbx.gr hg).2 _ _ (la j u hu)).1,ld_row hkb fun j u hu=>((hbx.gr hg).2 _ _ (lb j u hu)).1⟩
 clear la lb hka hkb
 have hk0:¬ k7=0:=by omega
 replace hk7:=Lib.hid hk7
 replace hR:=Lib.hid hR
 replace htx:=Lib.hid htx
 obtain⟨W,hW⟩:∃ W,w.alloc (.cells l.toArray 61)=W:=⟨_,rfl⟩
 rw [hW] at hbx hgA hlda
 have xx:=(hbx).lt
 have x0:=((hbx).2 0 _ l0).1
 have x1:=((hbx).2 1 _ l1).1
 have x16:=((hbx).2 16 _ l16).1
 have x17:=((hbx).2 17 _ l17).1
 have x18:=((hbx).2 18 _ l18).1
 have x20:=((hbx).2 20 _ l20).1
 have x19:=((hbx).2 19 _ l19).1
 have x21:=((hbx).2 21 _ l21).1
 go_enter Tryz.func59,Tryz.ntmps59
 go_upto_region 1 with fail
 clear hW
 go_cut [43] (fun v wx=>v=.bool (!(decide (1≤len) && (decide (len≤2147483647) && (decide (0≤gain) && (decide (gain≤65536) && (Vc && (Va && Vb)))))))∧Gr W wx)
 case first=>as_aux_lemma=>
  clear hR htx hea heb HL
  obtain⟨sa0,sb0⟩:=hlda.out W (Gr.refl W)
  by_cases c1:1≤len
  ·have q1:decide (len<1)=false:=decide_eq_false (by omega)
   by_cases c2:len≤2147483647
   ·have q2:decide (2147483647<len)=false:=decide_eq_false (by omega)
    by_cases c3:0≤gain
    ·have q3:decide (gain<0)=false:=decide_eq_false (by omega)
     by_cases c4:gain≤65536
     ·have q4:decide (65536<gain)=false:=decide_eq_false (by omega)
      cases Vc with
      | false=>
       go_wp2_with (first
        | (go_at_call 83;(with_reducible refine (HC.out _ hgA).mono ?_);rintro e w1 ⟨rfl,hg1⟩;have hb1:=hbx.gr hg1;have yx:=(hb1).lt;have y0:=((hb1).2 0 _ l0).1;have y1:=((hb1).2 1 _ l1).1;have y16:=((hb1).2 16 _ l16).1;have y17:=((hb1).2 17 _ l17).1;have y18:=((hb1).2 18 _ l18).1;have y19:=((hb1).2 19 _ l19).1;have y20:=((hb1).2 20 _ l20).1;have y21:=((hb1).2 21 _ l21).1;obtain⟨sa1,sb1⟩:=hlda.out _ hg1)
        | (go_at_call 84;(with_reducible refine (HA.out _).mono ?_);rintro e w2 ⟨rfl,hg2⟩;have hb2:=hb1.gr hg2;have zx:=(hb2).lt;have z0:=((hb2).2 0 _ l0).1;have z1:=((hb2).2 1 _ l1).1;have z16:=((hb2).2 16 _ l16).1;have z17:=((hb2).2 17 _ l17).1;have z18:=((hb2).2 18 _ l18).1;have z19:=((hb2).2 19 _ l19).1;have z20:=((hb2).2 20 _ l20).1;have z21:=((hb2).2 21 _ l21).1;obtain⟨sa2,sb2⟩:=hlda.out _ (hg1.trans hg2))
        | (go_at_call 84;(with_reducible refine (HB.out _).mono ?_);rintro e w3 ⟨rfl,hg3⟩;have hb3:=hb2.gr hg3;have vx:=(hb3).lt;have v0:=((hb3).2 0 _ l0).1;have v1:=((hb3).2 1 _ l1).1;have v16:=((hb3).2 16 _ l16).1;have v17:=((hb3).2 17 _ l17).1;have v18:=((hb3).2 18 _ l18).1;have v19:=((hb3).2 19 _ l19).1;have v20:=((hb3).2 20 _ l20).1;have v21:=((hb3).2 21 _ l21).1))
       go_meet
       exact⟨by simp [c1,c2,c3,c4],(by repeat (first | refine Gr.setCell ?_ (by first | omega | (simp;done) | (simp;omega)) _ | refine Gr.alloc ?_ _ | refine Gr.drew ?_ | refine Gr.drewN ?_ _ | with_reducible assumption | with_reducible exact Gr.refl _ | refine Gr.trans ?_ (by with_reducible assumption)))⟩
      | true=>
       cases Va with
       | false=>
        go_wp2_with (first
         | (go_at_call 83;(with_reducible refine (HC.out _ hgA).mono ?_);rintro e w1 ⟨rfl,hg1⟩;have hb1:=hbx.gr hg1;have yx:=(hb1).lt;have y0:=((hb1).2 0 _ l0).1;have y1:=((hb1).2 1 _ l1).1;have y16:=((hb1).2 16 _ l16).1;have y17:=((hb1).2 17 _ l17).1;have y18:=((hb1).2 18 _ l18).1;have y19:=((hb1).2 19 _ l19).1;have y20:=((hb1).2 20 _ l20).1;have y21:=((hb1).2 21 _ l21).1;obtain⟨sa1,sb1⟩:=hlda.out _ hg1)
         | (go_at_call 84;(with_reducible refine (HA.out _).mono ?_);rintro e w2 ⟨rfl,hg2⟩;have hb2:=hb1.gr hg2;have zx:=(hb2).lt;have z0:=((hb2).2 0 _ l0).1;have z1:=((hb2).2 1 _ l1).1;have z16:=((hb2).2 16 _ l16).1;have z17:=((hb2).2 17 _ l17).1;have z18:=((hb2).2 18 _ l18).1;have z19:=((hb2).2 19 _ l19).1;have z20:=((hb2).2 20 _ l20).1;have z21:=((hb2).2 21 _ l21).1;obtain⟨sa2,sb2⟩:=hlda.out _ (hg1.trans hg2))
         | (go_at_call 84;(with_reducible refine (HB.out _).mono ?_);rintro e w3 ⟨rfl,hg3⟩;have hb3:=hb2.gr hg3;have vx:=(hb3).lt;have v0:=((hb3).2 0 _ l0).1;have v1:=((hb3).2 1 _ l1).1;have v16:=((hb3).2 16 _ l16).1;have v17:=((hb3).2 17 _ l17).1;have v18:=((hb3).2 18 _ l18).1;have v19:=((hb3).2 19 _ l19).1;have v20:=((hb3).2 20 _ l20).1;have v21:=((hb3).2 21 _ l21).1))
        go_meet
        exact⟨by simp [c1,c2,c3,c4],(by repeat (first | refine Gr.setCell ?_ (by first | omega | (simp;done) | (simp;omega)) _ | refine Gr.alloc ?_ _ | refine Gr.drew ?_ | refine Gr.drewN ?_ _ | with_reducible assumption | with_reducible exact Gr.refl _ | refine Gr.trans ?_ (by with_reducible assumption)))⟩
       | true=>
        cases Vb with
        | false=>
         go_wp2_with (first
          | (go_at_call 83;(with_reducible refine (HC.out _ hgA).mono ?_);rintro e w1 ⟨rfl,hg1⟩;have hb1:=hbx.gr hg1;have yx:=(hb1).lt;have y0:=((hb1).2 0 _ l0).1;have y1:=((hb1).2 1 _ l1).1;have y16:=((hb1).2 16 _ l16).1;have y17:=((hb1).2 17 _ l17).1;have y18:=((hb1).2 18 _ l18).1;have y19:=((hb1).2 19 _ l19).1;have y20:=((hb1).2 20 _ l20).1;have y21:=((hb1).2 21 _ l21).1;obtain⟨sa1,sb1⟩:=hlda.out _ hg1)
          | (go_at_call 84;(with_reducible refine (HA.out _).mono ?_);rintro e w2 ⟨rfl,hg2⟩;have hb2:=hb1.gr hg2;have zx:=(hb2).lt;have z0:=((hb2).2 0 _ l0).1;have z1:=((hb2).2 1 _ l1).1;have z16:=((hb2).2 16 _ l16).1;have z17:=((hb2).2 17 _ l17).1;have z18:=((hb2).2 18 _ l18).1;have z19:=((hb2).2 19 _ l19).1;have z20:=((hb2).2 20 _ l20).1;have z21:=((hb2).2 21 _ l21).1;obtain⟨sa2,sb2⟩:=hlda.out _ (hg1.trans hg2))
          | (go_at_call 84;(with_reducible refine (HB.out _).mono ?_);rintro e w3 ⟨rfl,hg3⟩;have hb3:=hb2.gr hg3;have vx:=(hb3).lt;have v0:=((hb3).2 0 _ l0).1;have v1:=((hb3).2 1 _ l1).1;have v16:=((hb3).2 16 _ l16).1;have v17:=((hb3).2 17 _ l17).1;have v18:=((hb3).2 18 _ l18).1;have v19:=((hb3).2 19 _ l19).1;have v20:=((hb3).2 20 _ l20).1;have v21:=((hb3).2 21 _ l21).1))
         go_meet
         exact⟨by simp [c1,c2,c3,c4],(by repeat (first | refine Gr.setCell ?_ (by first | omega | (simp;done) | (simp;omega)) _ | refine Gr.alloc ?_ _ | refine Gr.drew ?_ | refine Gr.drewN ?_ _ | with_reducible assumption | with_reducible exact Gr.refl _ | refine Gr.trans ?_ (by with_reducible assumption)))⟩
        | true=>
         go_wp2_with (first
          | (go_at_call 83;(with_reducible refine (HC.out _ hgA).mono ?_);rintro e w1 ⟨rfl,hg1⟩;have hb1:=hbx.gr hg1;have yx:=(hb1).lt;have y0:=((hb1).2 0 _ l0).1;have y1:=((hb1).2 1 _ l1).1;have y16:=((hb1).2 16 _ l16).1;have y17:=((hb1).2 17 _ l17).1;have y18:=((hb1).2 18 _ l18).1;have y19:=((hb1).2 19 _ l19).1;have y20:=((hb1).2 20 _ l20).1;have y21:=((hb1).2 21 _ l21).1;obtain⟨sa1,sb1⟩:=hlda.out _ hg1)
          | (go_at_call 84;(with_reducible refine (HA.out _).mono ?_);rintro e w2 ⟨rfl,hg2⟩;have hb2:=hb1.gr hg2;have zx:=(hb2).lt;have z0:=((hb2).2 0 _ l0).1;have z1:=((hb2).2 1 _ l1).1;have z16:=((hb2).2 16 _ l16).1;have z17:=((hb2).2 17 _ l17).1;have z18:=((hb2).2 18 _ l18).1;have z19:=((hb2).2 19 _ l19).1;have z20:=((hb2).2 20 _ l20).1;have z21:=((hb2).2 21 _ l21).1;obtain⟨sa2,sb2⟩:=hlda.out _ (hg1.trans hg2))
          | (go_at_call 84;(with_reducible refine (HB.out _).mono ?_);rintro e w3 ⟨rfl,hg3⟩;have hb3:=hb2.gr hg3;have vx:=(hb3).lt;have v0:=((hb3).2 0 _ l0).1;have v1:=((hb3).2 1 _ l1).1;have v16:=((hb3).2 16 _ l16).1;have v17:=((hb3).2 17 _ l17).1;have v18:=((hb3).2 18 _ l18).1;have v19:=((hb3).2 19 _ l19).1;have v20:=((hb3).2 20 _ l20).1;have v21:=((hb3).2 21 _ l21).1))
         go_meet
         exact⟨by simp [c1,c2,c3,c4],(by repeat (first | refine Gr.setCell ?_ (by first | omega | (simp;done) | (simp;omega)) _ | refine Gr.alloc ?_ _ | refine Gr.drew ?_ | refine Gr.drewN ?_ _ | with_reducible assumption | with_reducible exact Gr.refl _ | refine Gr.trans ?_ (by with_reducible assumption)))⟩
     ·have q4:decide (65536<gain)=true:=decide_eq_true (by omega)
      go_wp2
      go_meet
      exact⟨by simp [c4],(by repeat (first | refine Gr.setCell ?_ (by first | omega | (simp;done) | (simp;omega)) _ | refine Gr.alloc ?_ _ | refine Gr.drew ?_ | refine Gr.drewN ?_ _ | with_reducible assumption | with_reducible exact Gr.refl _ | refine Gr.trans ?_ (by with_reducible assumption)))⟩
    ·have q3:decide (gain<0)=true:=decide_eq_true (by omega)
     go_wp2
     go_meet
     exact⟨by simp [c3],(by repeat (first | refine Gr.setCell ?_ (by first | omega | (simp;done) | (simp;omega)) _ | refine Gr.alloc ?_ _ | refine Gr.drew ?_ | refine Gr.drewN ?_ _ | with_reducible assumption | with_reducible exact Gr.refl _ | refine Gr.trans ?_ (by with_reducible assumption)))⟩
   ·have q2:decide (2147483647<len)=true:=decide_eq_true (by omega)
    go_wp2
    go_meet
    exact⟨by simp [c2],(by repeat (first | refine Gr.setCell ?_ (by first | omega | (simp;done) | (simp;omega)) _ | refine Gr.alloc ?_ _ | refine Gr.drew ?_ | refine Gr.drewN ?_ _ | with_reducible assumption | with_reducible exact Gr.refl _ | refine Gr.trans ?_ (by with_reducible assumption)))⟩
  ·have q1:decide (len<1)=true:=decide_eq_true (by omega)
   go_wp2
   go_meet
   exact⟨by simp [c1],(by repeat (first | refine Gr.setCell ?_ (by first | omega | (simp;done) | (simp;omega)) _ | refine Gr.alloc ?_ _ | refine Gr.drew ?_ | refine Gr.drewN ?_ _ | with_reducible assumption | with_reducible exact Gr.refl _ | refine Gr.trans ?_ (by with_reducible assumption)))⟩
 case rest=>as_aux_lemma=>
  obtain⟨rfl,hg1⟩:=hcut
  obtain⟨P,hP⟩:∃ P,(decide (1≤len) && (decide (len≤2147483647) && (decide (0≤gain) && (decide (gain≤65536) && (Vc && (Va && Vb))))))=P:=⟨_,rfl⟩
  have hPl:P=true→1≤len∧len≤2147483647:=fun e=>by
   rw [← hP] at e
   simp only [Bool.and_eq_true,decide_eq_true_eq] at e
   exact⟨e.1,e.2.1⟩
  have hR2:=hR.out
  rw [hP] at hR2 ⊢
  clear hP hR HA HB HC
  have hgw1:=hgA.trans hg1
  cases P with
  | false=>
   rw [Bool.false_and] at hR2
   go_wp2
   go_ret
   exact⟨by rw [← hR2];rfl,hgw1⟩
  | true=>
   obtain⟨n0,n1⟩:=hPl rfl
   rw [Bool.true_and] at hR2
   replace hR2:=Lib.hid hR2
   have hb1:=hbx.gr hg1
   obtain⟨sa,sb⟩:=hlda.out wc hg1
   have yx:=(hb1).lt
   have y0:=((hb1).2 0 _ l0).1
   have y1:=((hb1).2 1 _ l1).1
   have y16:=((hb1).2 16 _ l16).1
   have y17:=((hb1).2 17 _ l17).1
   have y18:=((hb1).2 18 _ l18).1
   have y19:=((hb1).2 19 _ l19).1
   have y20:=((hb1).2 20 _ l20).1
   have y21:=((hb1).2 21 _ l21).1
   go_upto_region 3 with fail
   have wd:decide (tx=noTx)=tx.toList.isEmpty:=by
    by_cases e:tx=noTx
    ·rw [decide_eq_true e,htx.out.2 e]
    ·rw [decide_eq_false e]
     cases h:tx.toList.isEmpty
     ·rfl
     ·exact absurd (htx.out.1 h) e
   have wc0:decide (ch=[])=((ch.length:Int) == 0):=by
    cases ch with
    | nil=>rfl
    | cons x r=>simp;omega
   have hR3:=hR2.out
   rw [wd,wc0] at hR3
   clear hR2 wd wc0
   generalize hEt:tx.toList.isEmpty=Et at *
   generalize hEc:((ch.length:Int) == 0)=Ec at *
   replace hR3:=Lib.hid hR3
   go_upto_region 4 with fail
   refine wp_region_gr (by kernel_rfl) (by kernel_rfl) (fun hq1 hq2=>?_)
   repeat (first | go_big_quiet_skip | (go_big_quiet_want;go_big_quiet_op;first | go_big_quiet_on | (apply Exists.intro;refine⟨fun _=>?_,?_⟩;(· (fail));go_big_quiet_on)))
   refine wpQuiet_nil ?_
   clear hq1 hq2
   rintro w2 ⟨⟨_,hg2⟩,rfl⟩
   obtain⟨hc2,hf2⟩:=hg2.cells
   have hz2:=hg2.size
   (try simp at hz2);(try have hl2_0_0:w.heap.size<w2.heap.size:=by omega);(try have hm2_0_0:w.heap.size≤w2.heap.size:=by omega);(try have hl2_0_1:w.heap.size+1<w2.heap.size:=by omega);(try have hl2_0_2:w.heap.size+2<w2.heap.size:=by omega);(try have hl2_1_0:w1.heap.size<w2.heap.size:=by omega);(try have hm2_1_0:w1.heap.size≤w2.heap.size:=by omega);(try have hl2_1_1:w1.heap.size+1<w2.heap.size:=by omega);(try have hl2_1_2:w1.heap.size+2<w2.heap.size:=by omega)
   clear sa sb yx y0 y1 y16 y17 y18 y19 y20 y21
   have hb2:=hb1.gr hg2
   have zx:=(hb2).lt
   have z0:=((hb2).2 0 _ l0).1
   have z1:=((hb2).2 1 _ l1).1
   have z16:=((hb2).2 16 _ l16).1
   have z17:=((hb2).2 17 _ l17).1
   have z18:=((hb2).2 18 _ l18).1
   have z19:=((hb2).2 19 _ l19).1
   have z20:=((hb2).2 20 _ l20).1
   have z21:=((hb2).2 21 _ l21).1
   go_upto_region 5 with fail
   go_cut [6] (fun v wx=>v=.bool (decide (off=0) && decide (tot=0))∧Gr w2 wx)
   case first=>as_aux_lemma=>
    clear hR3
    by_cases c1:off=0
    ·have q1:(off == 0)=true:=by simp [c1]
     go_wp2
     all_goals go_meet
     all_goals exact⟨by first | rfl | (simp [c1];done) | (simp [c1];rfl),(by repeat (first | refine Gr.setCell ?_ (by first | omega | (simp;done) | (simp;omega)) _ | refine Gr.alloc ?_ _ | refine Gr.drew ?_ | refine Gr.drewN ?_ _ | with_reducible assumption | with_reducible exact Gr.refl _ | refine Gr.trans ?_ (by with_reducible assumption)))⟩
    ·have q1:(off == 0)=false:=by simp [c1]
     go_wp2
     go_meet
     exact⟨by simp [c1],(by repeat (first | refine Gr.setCell ?_ (by first | omega | (simp;done) | (simp;omega)) _ | refine Gr.alloc ?_ _ | refine Gr.drew ?_ | refine Gr.drewN ?_ _ | with_reducible assumption | with_reducible exact Gr.refl _ | refine Gr.trans ?_ (by with_reducible assumption)))⟩
   case rest=>as_aux_lemma=>
    obtain⟨rfl,hg3⟩:=hcut
    have hb3:=hb2.gr hg3
    have hgw3:=(hgw1.trans hg2).trans hg3
    obtain⟨sa3,sb3⟩:=hlda.out _ ((hg1.trans hg2).trans hg3)
    clear zx z0 z1 z16 z17 z18 z19 z20 z21
    have yx:=(hb3).lt
    have y0:=((hb3).2 0 _ l0).1
    have y1:=((hb3).2 1 _ l1).1
    have y16:=((hb3).2 16 _ l16).1
    have y17:=((hb3).2 17 _ l17).1
    have y18:=((hb3).2 18 _ l18).1
    have y19:=((hb3).2 19 _ l19).1
    have y20:=((hb3).2 20 _ l20).1
    have y21:=((hb3).2 21 _ l21).1
    go_upto_region 6 with fail
    go_cut [7] (fun v wx=>v=.bool (decide (0≤off) && (decide (len≤tot) && (decide (tot≤2147483647) && decide (off≤tot - len))))∧Gr wc wx)
    case first=>as_aux_lemma=>
     clear hR3
     obtain⟨g30,g31⟩:=g3
     obtain⟨g40,g41⟩:=g4
     by_cases c1:0≤off
     ·have q1:decide (0≤off)=true:=decide_eq_true c1
      by_cases c2:len≤tot
      ·have q2:decide (len≤tot)=true:=decide_eq_true c2
       by_cases c3:tot≤2147483647
       ·have q3:decide (tot≤2147483647)=true:=decide_eq_true c3
        go_wp2
        all_goals go_meet
        all_goals exact⟨by simp only [decide_eq_true c1,decide_eq_true c2,decide_eq_true c3,Bool.true_and],(by repeat (first | refine Gr.setCell ?_ (by first | omega | (simp;done) | (simp;omega)) _ | refine Gr.alloc ?_ _ | refine Gr.drew ?_ | refine Gr.drewN ?_ _ | with_reducible assumption | with_reducible exact Gr.refl _ | refine Gr.trans ?_ (by with_reducible assumption)))⟩
       ·have q3:decide (tot≤2147483647)=false:=decide_eq_false (show ¬ tot≤2147483647 by omega)
        go_wp2
        go_meet
        exact⟨by simp only [decide_eq_true c1,decide_eq_true c2,decide_eq_false (show ¬ tot≤2147483647 by omega),Bool.true_and,Bool.false_and],(by repeat (first | refine Gr.setCell ?_ (by first | omega | (simp;done) | (simp;omega)) _ | refine Gr.alloc ?_ _ | refine Gr.drew ?_ | refine Gr.drewN ?_ _ | with_reducible assumption | with_reducible exact Gr.refl _ | refine Gr.trans ?_ (by with_reducible assumption)))⟩
      ·have q2:decide (len≤tot)=false:=decide_eq_false c2
       go_wp2
       go_meet
       exact⟨by simp only [decide_eq_true c1,decide_eq_false (show ¬ len≤tot by omega),Bool.true_and,Bool.false_and],(by repeat (first | refine Gr.setCell ?_ (by first | omega | (simp;done) | (simp;omega)) _ | refine Gr.alloc ?_ _ | refine Gr.drew ?_ | refine Gr.drewN ?_ _ | with_reducible assumption | with_reducible exact Gr.refl _ | refine Gr.trans ?_ (by with_reducible assumption)))⟩
     ·have q1:decide (0≤off)=false:=decide_eq_false c1
      go_wp2
      go_meet
      exact⟨by simp only [decide_eq_false (show ¬ 0≤off by omega),Bool.false_and],(by repeat (first | refine Gr.setCell ?_ (by first | omega | (simp;done) | (simp;omega)) _ | refine Gr.alloc ?_ _ | refine Gr.drew ?_ | refine Gr.drewN ?_ _ | with_reducible assumption | with_reducible exact Gr.refl _ | refine Gr.trans ?_ (by with_reducible assumption)))⟩
    case rest=>as_aux_lemma=>
     obtain⟨rfl,hg4⟩:=hcut
     have hb4:=hb3.gr hg4
     have hgw4:=hgw3.trans hg4
     obtain⟨sa4,sb4⟩:=hlda.out _ (((hg1.trans hg2).trans hg3).trans hg4)
     clear yx y0 y1 y16 y17 y18 y19 y20 y21
     have zx:=(hb4).lt
     have z0:=((hb4).2 0 _ l0).1
     have z1:=((hb4).2 1 _ l1).1
     have z16:=((hb4).2 16 _ l16).1
     have z17:=((hb4).2 17 _ l17).1
     have z18:=((hb4).2 18 _ l18).1
     have z19:=((hb4).2 19 _ l19).1
     have z20:=((hb4).2 20 _ l20).1
     have z21:=((hb4).2 21 _ l21).1
     obtain⟨Nsh,hNs⟩:∃ N,(decide (off=0) && decide (tot=0))=N:=⟨_,rfl⟩
     obtain⟨Shr,hSh⟩:∃ N,(decide (0≤off) && (decide (len≤tot) && (decide (tot≤2147483647) && decide (off≤tot - len))))=N:=⟨_,rfl⟩
     have hR4:=hR3.out
     rw [hNs,hSh] at hR4
     rw [hNs,hSh]
     clear hNs hSh hR3 hb1 hb2 hb3 hbx hg1 hg2 hg3 hg4 hlda hgA hgw1 hgw3 hc2 hf2
     rw [show decide (par=0)=(par == 0) from rfl,show decide (gain=0)=(gain == 0) from rfl] at hR4
     generalize hEp:(par == 0)=Ep at *
     generalize hEg:(gain == 0)=Eg at *
     clear hEp
     replace hR4:=Lib.hid hR4
     by_cases k0:kind=0
     ·as_aux_lemma=>
      subst k0
      go_wp2
      all_goals go_ret
      all_goals refine⟨?_,hgw4⟩
      all_goals have hh:=hR4.out
      all_goals simp_all
     by_cases k1:kind=1
     ·as_aux_lemma=>
      subst k1
      go_wp2
      all_goals go_ret
      all_goals refine⟨?_,hgw4⟩
      all_goals have hh:=hR4.out
      all_goals simp_all
     by_cases k2:kind=2
     ·as_aux_lemma=>
      subst k2
      go_wp2
      all_goals go_ret
      all_goals refine⟨?_,hgw4⟩
      all_goals have hh:=hR4.out
      all_goals simp_all
     by_cases k3:kind=3
     ·as_aux_lemma=>
      subst k3
      go_wp2
      all_goals go_ret
      all_goals refine⟨?_,hgw4⟩
      all_goals have hh:=hR4.out
      all_goals simp_all
      all_goals (first | (rw [decide_eq_false (show ¬ 0≤par by omega)] at hh;simpa using hh.symm) | (rw [decide_eq_false (show ¬ par≤3 by omega)] at hh;simpa using hh.symm) | (rw [decide_eq_false (show ¬ par≤255 by omega)] at hh;simpa using hh.symm))
     by_cases k4:kind=4
     ·as_aux_lemma=>
      subst k4
      go_wp2
      all_goals go_ret
      all_goals refine⟨?_,hgw4⟩
      all_goals have hh:=hR4.out
      all_goals simp_all
      all_goals (first | (rw [decide_eq_false (show ¬ 0≤par by omega)] at hh;simpa using hh.symm) | (rw [decide_eq_false (show ¬ par≤3 by omega)] at hh;simpa using hh.symm) | (rw [decide_eq_false (show ¬ par≤255 by omega)] at hh;simpa using hh.symm))
     by_cases k5:kind=5
     ·as_aux_lemma=>
      subst k5
      go_wp2_with (go_at_call 85;(with_reducible refine (HL.out _).mono ?_);rintro e w5 ⟨rfl,hg5⟩)
      all_goals go_ret
      all_goals refine⟨?_,(by first | exact hgw4 | exact hgw4.trans hg5)⟩
      all_goals have hh:=hR4.out
      all_goals simp_all
     have e0:(kind == 0)=false:=by simp [k0]
     have e1:(kind == 1)=false:=by simp [k1]
     have e2:(kind == 2)=false:=by simp [k2]
     have e3:(kind == 3)=false:=by simp [k3]
     have e4:(kind == 4)=false:=by simp [k4]
     have e5:(kind == 5)=false:=by simp [k5]
     go_wp2
     go_ret
     refine⟨?_,hgw4⟩
     have hh:=hR4.out
     simp_all
theorem vclip_any (m:CM) (w:World) (hm:ClOk m.c) (hch:ChR w m):Calls Tryz.prog 59 #[m.val] w fun e w'=>e=.returned (.bool (vcB m.c))∧Gr w w':=vclip_core 7 rfl m w hm hch
theorem vcB_iff (c:Cl):vcB c=true↔VC c:=by
 unfold vcB baseB chB
 simp only [Bool.and_eq_true,decide_eq_true_eq,List.all_eq_true,vsB_iff]
 have hk:kdC c=true↔kindOk c:=by
  unfold kdC kindOk noS shS
  by_cases h0:c.kind=0
  ·simp [h0,and_assoc]
  by_cases h1:c.kind=1
  ·simp [h1,and_assoc]
  by_cases h2:c.kind=2
  ·simp [h2,and_assoc]
  by_cases h3:c.kind=3
  ·simp [h3,and_assoc]
  by_cases h4:c.kind=4
  ·simp [h4,and_assoc]
  by_cases h5:c.kind=5
  ·simp [h5,and_assoc]
  simp [h0,h1,h2,h3,h4,h5]
 rw [hk]
 constructor
 ·rintro ⟨⟨h1,h2,h3,h4,⟨h5,h6⟩,h7,h8⟩,h9⟩
  exact⟨⟨h1,h2⟩,⟨h3,h4⟩,⟨h5,fun x hx=>by have:=h6 x hx;unfold chX at this;exact of_decide_eq_true this⟩,h7,h8,h9⟩
 ·intro h
  exact⟨⟨h.len.1,h.len.2,h.gain.1,h.gain.2,⟨h.chn.1,fun x hx=>decide_eq_true (h.chn.2 x hx)⟩,h.a,h.b⟩,h.kd⟩
structure VT (l:List Cl):Prop where
 len:l.length≤64
 vc:∀ c∈l,VC c
 tot:tot l≤2147483647
def vtB (l:List Cl):Bool:=decide (l.length≤64) && (l.all vcB && decide (tot l≤2147483647))
theorem vtB_iff (l:List Cl):vtB l=true↔VT l:=by
 unfold vtB
 simp only [Bool.and_eq_true,decide_eq_true_eq,List.all_eq_true,vcB_iff]
 exact⟨fun ⟨h1,h2,h3⟩=>⟨h1,h2,h3⟩,fun h=>⟨h.len,h.vc,h.tot⟩⟩
theorem totM_eq (cs:List CM):totM cs=tot (cs.map CM.c):=by
 induction cs with
 | nil=>rfl
 | cons c cs ih=>simp only [totM,List.map_cons,tot,ih]
theorem vSr_ok {s:Sr} (h:vSr s):SrOk s:=by
 rcases h with rfl | h
 ·exact⟨⟨by decide,by decide⟩,by decide,⟨by decide,by decide⟩,⟨by decide,by decide⟩,⟨by decide,by decide⟩,⟨by decide,by decide⟩⟩
 ·exact h.ok
theorem VC.ok {c:Cl} (h:VC c):ClOk c:=by
 have h1:=h.len
 have h2:=h.gain
 have h3:=h.chn
 have hk:(0≤c.kind∧c.kind≤5)∧(0≤c.off∧c.off≤2147483647)∧(0≤c.tot∧c.tot≤2147483647)∧(0≤c.par∧c.par≤255)∧c.tx.size≤140737488355328:=by
  rcases h.kd with h | h | h | h | h | h
  ·obtain⟨_,_,_,_,_,_,ht,_⟩:=h
   refine⟨by omega,by omega,by omega,by omega,by rw [ht];decide⟩
  ·obtain⟨_,_,_,_,_,ht⟩:=h
   refine⟨by omega,by omega,by omega,by omega,by rw [ht];decide⟩
  ·obtain⟨_,_,_,ht⟩:=h
   refine⟨by omega,by omega,by omega,by omega,by rw [ht];decide⟩
  ·obtain⟨_,_,_,ht⟩:=h
   refine⟨by omega,by omega,by omega,by omega,by rw [ht];decide⟩
  ·obtain⟨_,_,_,_,ht⟩:=h
   refine⟨by omega,by omega,by omega,by omega,by rw [ht];decide⟩
  ·obtain⟨_,_,_,_,_,ht⟩:=h
   refine⟨by omega,by omega,by omega,by omega,?_⟩
   unfold vLine at ht
   simp only [Bool.and_eq_true,decide_eq_true_eq] at ht
   omega
 refine⟨⟨by omega,by omega⟩,⟨by omega,by omega⟩,vSr_ok h.a,vSr_ok h.b,⟨by omega,by omega⟩,⟨by omega,by omega⟩,⟨by omega,by omega⟩,hk.2.2.2.2,⟨by omega,by omega⟩,by omega⟩
theorem vtrack_any (cs:List CM) (v:Value) (w:World) (h:TrR w v cs) (hok:∀ c∈cs,ClOk c.c):Calls Tryz.prog 34 #[v] w fun e w'=>e=.returned (.bool (vtB (cs.map CM.c)))∧Gr w w':=by
 have h1:=vtrack_core 22 rfl (fun c=>vcB c.c) cs v w h (fun c hc he=>by have:=((vcB_iff _).1 he).len;omega) (Lib.hid fun c hc w' hg=>vclip_any c w' (hok c hc) ((h.ch c hc).gr hg))
 have h2:(decide (cs.length≤64) && (cs.all (fun c=>vcB c.c) && decide (totM cs≤2147483647)))=vtB (cs.map CM.c):=by
  unfold vtB
  rw [totM_eq,List.length_map,List.all_map]
  rfl
 rw [h2] at h1
 exact h1
theorem pack_any (cs:List CM) (v:Value) (w:World) (h:TrR w v cs) (hn:cs.length≤1000000) (hv:∀ c∈cs,VC c.c) (ht:tot (cs.map CM.c)≤4294967296) :
  Calls Tryz.prog 36 #[v] w fun e w'=>∃ v' ts,e=.returned v'∧Gr w w'∧TrO w.heap.size w' v' ts∧ts.map CM.c=pk (cs.map CM.c):=by
 have h1:=pack_core 22 rfl cs v w h hn (fun c hc=>by have:=(hv c hc).len;omega)
  (Lib.hid fun i h0 hi w' hg=>continues_any cs[i] (cs[i - 1]'(by omega)) w' ((h.ch _ (List.getElem_mem _)).gr hg) ((h.ch _ (List.getElem_mem _)).gr hg) (hv _ (List.getElem_mem _)).chn.1 (hv _ (List.getElem_mem _)))
  (Lib.hid fun c hc w' hg=>copied_core 22 rfl c w' ((h.ch c hc).gr hg) (by have:=(hv c hc).chn.1;omega))
 refine h1.mono fun e w' ⟨v',ts,q1,q2,q3,q4,_⟩=>⟨v',ts,q1,q2,q3,?_⟩
 rw [q4]
 refine pkQ_eq (fun c hc=>?_) ht
 obtain⟨m,hm,rfl⟩:=List.mem_map.1 hc
 exact (hv m hm).vl
def nmC (l:List Cl):List Cl:=if vtB l then cutG (pk l) else []
def pkC (l:List Cl):List Cl:=if vtB l then pk l else []
theorem pack2_any (cs:List CM) (v:Value) (w:World) (h:TrR w v cs) (hok:∀ c∈cs,ClOk c.c) :
  Calls Tryz.prog 38 #[v] w fun e w'=>∃ v' ts,e=.returned v'∧Gr w w'∧TrO w.heap.size w' v' ts∧ts.map CM.c=pkC (cs.map CM.c):=by
 have h1:=pack2_core v w (vtB (cs.map CM.c)) (fun ts=>ts.map CM.c=pk (cs.map CM.c)) (Lib.hid fun w' hg=>vtrack_any cs v w' (h.gr hg) hok) (Lib.hid fun hB w' hg=>by
  have hT:=(vtB_iff _).1 hB
  have hl:=hT.len
  rw [List.length_map] at hl
  have ht:=hT.tot
  exact pack_any cs v w' (h.gr hg) (by omega) (fun c hc=>hT.vc _ (List.mem_map.2 ⟨c,hc,rfl⟩)) (by omega))
 refine h1.mono fun e w' ⟨v',ts,q1,q2,q3,q4⟩=>⟨v',ts,q1,q2,q3,?_⟩
 unfold pkC
 rcases q4 with ⟨h4,rfl⟩ | ⟨h4,h5⟩
 ·rw [h4];rfl
 ·rw [h4,h5];rfl
theorem pkC_len (l:List Cl):(pkC l).length≤64:=by
 unfold pkC
 split
 ·rename_i h
  have:=((vtB_iff l).1 h).len
  have:=pk_len l
  omega
 ·simp
theorem normal_any (cs:List CM) (v:Value) (w:World) (h:TrR w v cs) (hok:∀ c∈cs,ClOk c.c) :
  Calls Tryz.prog 17 #[v] w fun e w'=>∃ v' ts,e=.returned v'∧Gr w w'∧TrR w' v' ts∧ts.map CM.c=nmC (cs.map CM.c):=by
 have h1:=normal_core v w (fun ts=>ts.map CM.c=pkC (cs.map CM.c)) (Lib.hid (pack2_any cs v w h hok)) (Lib.hid fun ts ht=>by
  have h2:=pkC_len (cs.map CM.c)
  rw [← ht,List.length_map] at h2
  omega)
 refine h1.mono fun e w' ⟨v',ts,ts',q1,q2,q3,q4,q5,_⟩=>⟨v',ts',q1,q2,q3,?_⟩
 rw [q5,q4]
 unfold nmC pkC
 split
 ·rfl
 ·rfl
end Go.Proofs.YtnginfangeikpaaGreatDoor
