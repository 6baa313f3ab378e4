/-
  Part of the proof of rof_yes (printed by spl.py). Part J.
  Conditions: as there.
-/
import Derived.Test.YtgbiodnfpbhjiaaGreatDoorReg9
import Derived.Deep.CutBlock
import Derived.Test.YtgbiodnfpbhjiaaGreatDoorWalkRoV
import Derived.Test.YtgbiodnfpbhjiaaGreatDoorWalkOfE
namespace Go.Proofs.YtgbiodnfpbhjiaaGreatDoor
open Go.RowKit Go.Lib
set_option linter.unusedSimpArgs false
set_option linter.unusedVariables false
set_option maxRecDepth 100000 in
set_option maxHeartbeats 8000000 in
theorem rof_yesJ:rof_yesQDef.LJ:=by
        intro k k7
        iterate 4 intro _
        intro drop w _ hk22 hk7 _ _ _ w1
        iterate 5 intro _
        intro ts
        iterate 10 intro _
        intro hN
        iterate 191 intro _
        intro j _ n
        iterate 7 intro _
        intro b o _ hTK _ _ _ m _ ln
        iterate 214 intro _
        intro fr s
        iterate 187 intro _
        intro mvl mo hmv7 hmv hmo
        iterate 6 intro _
        intro W9 hI9 _ _ _ MB _ hbM e
        iterate 5 intro _
        intro hbl2 hc2
        iterate 4 intro _
        intro hlk hl0'
        iterate 4 intro _
        by_cases c0:0<fr
        ·have p0:decide (0<fr)=true:=decide_eq_true c0
         by_cases c9:j+1<ts.length
         ·have p1:decide ((j:Int)+1<(ts.length:Int))=true:=decide_eq_true (by omega)
          have i2:(0:Int)≤(j:Int)+1∧(j:Int)+1<(ts.length:Int):=by omega
          have hjn:((j:Int)+1).toNat=j+1:=by omega
          have hdm:∀ d r,(ts.drop (j+1)).map CM.c=d :: r→d=ts[j+1].c:=by
           intro d r h
           rw [List.drop_eq_getElem_cons c9,List.map_cons] at h
           injection h with h _
           exact h.symm
          have hdv:=hN.out _ (List.getElem_mem c9)
          have hcd:∀ (x:Nat) (u:Value),ts[j+1].cells[x]?=some u→W9.cell? ⟨b,o+(j+1) * k+x,none⟩=some u:=fun x u hu=>by rw [← hk22.out];exact hc2 (j+1) c9 x u hu
          have hchd:=((hTK.out _ hI9.kp).ch _ (List.getElem_mem c9)).slice
          have hlk2:=hlk.out c0
          cases mo with
          | false=>
           refine wp_region_gr (by as_aux_lemma=>kernel_rfl) (by as_aux_lemma=>kernel_rfl) (fun hq1 hq2=>?_)
           repeat (first | go_big_quiet_skip | (go_big_quiet_want;go_big_quiet_op;first | go_big_quiet_on | (apply Exists.intro;refine⟨fun _=>?_,?_⟩;(· (fail));go_big_quiet_on)))
           refine wpQuiet_nil ?_
           clear hq1 hq2
           rintro w1 ⟨⟨_,hg1⟩,rfl⟩
           obtain⟨hc1,hf1⟩:=hg1.cells
           have hz1:=hg1.size
           (try simp at hz1);(try have hl1_0_0:w.heap.size<w1.heap.size:=by omega);(try have hm1_0_0:w.heap.size≤w1.heap.size:=by omega);(try have hl1_0_1:w.heap.size+1<w1.heap.size:=by omega);(try have hl1_0_2:w.heap.size+2<w1.heap.size:=by omega)
           go_wp2
           go_meet
           refine⟨false,rfl,hg1,.inr ⟨rfl,fun d r h=>?_⟩⟩
           rw [hdm d r h,hlk2]
           refine decide_eq_false fun h9=>?_
           have:=mvOk_valid (s:=s) (n:=ln) (h9.2.1 ▸ hdv.a)
           rw [hmo.out] at this
           cases this
          | true=>as_aux_lemma=>
           obtain⟨D,hD⟩:∃ D,ts[j+1]=D:=⟨_,rfl⟩
           obtain⟨dc,dcp,hdch⟩:=hchd
           rw [hD] at hdv hcd hdch hdm
           have hyes:lookB e m.c D.c=true→∃ h:j+1<ts.length,lookB e m.c ts[j+1].c=true:=fun h=>⟨c9,by rw [hD];exact h⟩
           have hnot:lookB e m.c D.c=false→∀ d r,(ts.drop (j+1)).map CM.c=d :: r→lookB e m.c d=false:=fun h d r h'=>by rw [hdm d r h'];exact h
           rw [hlk2] at hyes hnot
           replace hyes:=Lib.hid hyes
           replace hnot:=Lib.hid hnot
           have z1:=hcd 1 _ rfl
           have z20:=hcd 20 _ rfl
           have z21:=hcd 21 _ rfl
           rw [hdch] at z21
           obtain⟨al,hal7⟩:∃ al,D.c.a.cells=al:=⟨_,rfl⟩
           have halk:al.length=k7:=by rw [← hal7];exact hk7.out
           have la3:∀ y:GW W9,Sem.run Tryz.prog (loadCellsFrom ⟨b,o+(j+1) * k+2,none⟩ 0 k7 #[]) y.w=.ok al.toArray y.w:=fun y=>ld_row halk fun x u hx=>by
            rw [Nat.add_assoc _ 2 x]
            refine (y.h.cells.1 b _ hbl2).trans (hcd (2+x) u ?_)
            rw [← hal7] at hx
            have hx7:x<7:=(List.getElem?_eq_some_iff.1 hx).1
            rcases (show x=0∨x=1∨x=2∨x=3∨x=4∨x=5∨x=6 by omega) with rfl | rfl | rfl | rfl | rfl | rfl | rfl <;> exact hx
           have lb3:∀ y:GW W9,Sem.run Tryz.prog (loadCellsFrom ⟨MB,0,none⟩ 0 k7 #[]) y.w=.ok mvl.toArray y.w:=fun y=>ld_cel hmv7 (hbM.gr y.h).cel
           obtain⟨K,hK⟩:∃ K,decide (D.c.a=mvS s ln)=K:=⟨_,rfl⟩
           have hq:∀ w,(binOp .eql 79 (.agg al.toArray) (.agg mvl.toArray)).run Tryz.prog w=.ok (.bool K) w:=fun w=>by
            rw [← hal7,← hmv.out,← hK]
            exact eq_src D.c.a (mvS s ln) w
           have hMl:=hbM.lt
           replace hK:=Lib.hid hK
           replace hal7:=Lib.hid hal7
           replace hdch:=Lib.hid hdch
           replace hD:=Lib.hid hD
           clear hcd hdm hdv hlk2 hc2
           by_cases ck1:D.c.kind=1
           ·have r1:(D.c.kind == 1)=true:=by simp [ck1]
            replace ck1:=Lib.hid ck1
            cases K with
            | false=>
             refine wp_region_gr (by as_aux_lemma=>kernel_rfl) (by as_aux_lemma=>kernel_rfl) (fun hq1 hq2=>?_)
             repeat (first | go_big_quiet_skip | (go_big_quiet_want;go_big_quiet_op;first | go_big_quiet_on | (apply Exists.intro;refine⟨fun _=>?_,?_⟩;(· (fail));go_big_quiet_on)))
             refine wpQuiet_nil ?_
             clear hq1 hq2
             rintro w1 ⟨⟨_,hg1⟩,rfl⟩
             obtain⟨hc1,hf1⟩:=hg1.cells
             have hz1:=hg1.size
             (try simp at hz1);(try have hl1_0_0:w.heap.size<w1.heap.size:=by omega);(try have hm1_0_0:w.heap.size≤w1.heap.size:=by omega);(try have hl1_0_1:w.heap.size+1<w1.heap.size:=by omega);(try have hl1_0_2:w.heap.size+2<w1.heap.size:=by omega)
             go_wp2
             go_meet
             exact⟨false,rfl,hg1,.inr ⟨rfl,hnot.out (decide_eq_false fun h=>of_decide_eq_false hK.out h.2.1)⟩⟩
            | true=>as_aux_lemma=>
             by_cases cg:D.c.gain=0
             ·have r2:(D.c.gain == 0)=true:=by simp [cg]
              replace cg:=Lib.hid cg
              by_cases cl:D.c.ch=[]
              ·have r3:((D.c.ch.length:Int) == 0)=true:=by simp [cl]
               replace cl:=Lib.hid cl
               refine wp_region_gr (by as_aux_lemma=>kernel_rfl) (by as_aux_lemma=>kernel_rfl) (fun hq1 hq2=>?_)
               repeat (first | go_big_quiet_skip | (go_big_quiet_want;go_big_quiet_op;first | go_big_quiet_on | (apply Exists.intro;refine⟨fun _=>?_,?_⟩;(· (fail));go_big_quiet_on)))
               refine wpQuiet_nil ?_
               clear hq1 hq2
               rintro w1 ⟨⟨_,hg1⟩,rfl⟩
               obtain⟨hc1,hf1⟩:=hg1.cells
               have hz1:=hg1.size
               (try simp at hz1);(try have hl1_0_0:w.heap.size<w1.heap.size:=by omega);(try have hm1_0_0:w.heap.size≤w1.heap.size:=by omega);(try have hl1_0_1:w.heap.size+1<w1.heap.size:=by omega);(try have hl1_0_2:w.heap.size+2<w1.heap.size:=by omega)
               go_wp2
               go_meet
               exact⟨true,rfl,hg1,.inl ⟨rfl,hyes.out (decide_eq_true ⟨ck1.out,of_decide_eq_true hK.out,cg.out,cl.out⟩)⟩⟩
              ·have r3:((D.c.ch.length:Int) == 0)=false:=by simp [cl]
               replace cl:=Lib.hid cl
               refine wp_region_gr (by as_aux_lemma=>kernel_rfl) (by as_aux_lemma=>kernel_rfl) (fun hq1 hq2=>?_)
               repeat (first | go_big_quiet_skip | (go_big_quiet_want;go_big_quiet_op;first | go_big_quiet_on | (apply Exists.intro;refine⟨fun _=>?_,?_⟩;(· (fail));go_big_quiet_on)))
               refine wpQuiet_nil ?_
               clear hq1 hq2
               rintro w1 ⟨⟨_,hg1⟩,rfl⟩
               obtain⟨hc1,hf1⟩:=hg1.cells
               have hz1:=hg1.size
               (try simp at hz1);(try have hl1_0_0:w.heap.size<w1.heap.size:=by omega);(try have hm1_0_0:w.heap.size≤w1.heap.size:=by omega);(try have hl1_0_1:w.heap.size+1<w1.heap.size:=by omega);(try have hl1_0_2:w.heap.size+2<w1.heap.size:=by omega)
               go_wp2
               go_meet
               exact⟨false,rfl,hg1,.inr ⟨rfl,hnot.out (decide_eq_false fun h=>cl.out h.2.2.2)⟩⟩
             ·have r2:(D.c.gain == 0)=false:=by simp [cg]
              replace cg:=Lib.hid cg
              refine wp_region_gr (by as_aux_lemma=>kernel_rfl) (by as_aux_lemma=>kernel_rfl) (fun hq1 hq2=>?_)
              repeat (first | go_big_quiet_skip | (go_big_quiet_want;go_big_quiet_op;first | go_big_quiet_on | (apply Exists.intro;refine⟨fun _=>?_,?_⟩;(· (fail));go_big_quiet_on)))
              refine wpQuiet_nil ?_
              clear hq1 hq2
              rintro w1 ⟨⟨_,hg1⟩,rfl⟩
              obtain⟨hc1,hf1⟩:=hg1.cells
              have hz1:=hg1.size
              (try simp at hz1);(try have hl1_0_0:w.heap.size<w1.heap.size:=by omega);(try have hm1_0_0:w.heap.size≤w1.heap.size:=by omega);(try have hl1_0_1:w.heap.size+1<w1.heap.size:=by omega);(try have hl1_0_2:w.heap.size+2<w1.heap.size:=by omega)
              go_wp2
              go_meet
              exact⟨false,rfl,hg1,.inr ⟨rfl,hnot.out (decide_eq_false fun h=>cg.out h.2.2.1)⟩⟩
           ·have r1:(D.c.kind == 1)=false:=by simp [ck1]
            replace ck1:=Lib.hid ck1
            refine wp_region_gr (by as_aux_lemma=>kernel_rfl) (by as_aux_lemma=>kernel_rfl) (fun hq1 hq2=>?_)
            repeat (first | go_big_quiet_skip | (go_big_quiet_want;go_big_quiet_op;first | go_big_quiet_on | (apply Exists.intro;refine⟨fun _=>?_,?_⟩;(· (fail));go_big_quiet_on)))
            refine wpQuiet_nil ?_
            clear hq1 hq2
            rintro w1 ⟨⟨_,hg1⟩,rfl⟩
            obtain⟨hc1,hf1⟩:=hg1.cells
            have hz1:=hg1.size
            (try simp at hz1);(try have hl1_0_0:w.heap.size<w1.heap.size:=by omega);(try have hm1_0_0:w.heap.size≤w1.heap.size:=by omega);(try have hl1_0_1:w.heap.size+1<w1.heap.size:=by omega);(try have hl1_0_2:w.heap.size+2<w1.heap.size:=by omega)
            go_wp2
            go_meet
            exact⟨false,rfl,hg1,.inr ⟨rfl,hnot.out (decide_eq_false fun h=>ck1.out h.1)⟩⟩
         ·have p1:decide ((j:Int)+1<(ts.length:Int))=false:=decide_eq_false (by omega)
          refine wp_region_gr (by as_aux_lemma=>kernel_rfl) (by as_aux_lemma=>kernel_rfl) (fun hq1 hq2=>?_)
          repeat (first | go_big_quiet_skip | (go_big_quiet_want;go_big_quiet_op;first | go_big_quiet_on | (apply Exists.intro;refine⟨fun _=>?_,?_⟩;(· (fail));go_big_quiet_on)))
          refine wpQuiet_nil ?_
          clear hq1 hq2
          rintro w1 ⟨⟨_,hg1⟩,rfl⟩
          obtain⟨hc1,hf1⟩:=hg1.cells
          have hz1:=hg1.size
          (try simp at hz1);(try have hl1_0_0:w.heap.size<w1.heap.size:=by omega);(try have hm1_0_0:w.heap.size≤w1.heap.size:=by omega);(try have hl1_0_1:w.heap.size+1<w1.heap.size:=by omega);(try have hl1_0_2:w.heap.size+2<w1.heap.size:=by omega)
          go_wp2
          go_meet
          refine⟨false,rfl,hg1,.inr ⟨rfl,fun d r h=>?_⟩⟩
          rw [List.drop_of_length_le (by omega)] at h
          cases h
        ·have p0:decide (0<fr)=false:=decide_eq_false c0
         replace c0:=Lib.hid c0
         refine wp_region_gr (by as_aux_lemma=>kernel_rfl) (by as_aux_lemma=>kernel_rfl) (fun hq1 hq2=>?_)
         repeat (first | go_big_quiet_skip | (go_big_quiet_want;go_big_quiet_op;first | go_big_quiet_on | (apply Exists.intro;refine⟨fun _=>?_,?_⟩;(· (fail));go_big_quiet_on)))
         refine wpQuiet_nil ?_
         clear hq1 hq2
         rintro w1 ⟨⟨_,hg1⟩,rfl⟩
         obtain⟨hc1,hf1⟩:=hg1.cells
         have hz1:=hg1.size
         (try simp at hz1);(try have hl1_0_0:w.heap.size<w1.heap.size:=by omega);(try have hm1_0_0:w.heap.size≤w1.heap.size:=by omega);(try have hl1_0_1:w.heap.size+1<w1.heap.size:=by omega);(try have hl1_0_2:w.heap.size+2<w1.heap.size:=by omega)
         go_wp2
         go_meet
         exact⟨false,rfl,hg1,.inr ⟨rfl,fun d r _=>hl0'.out c0.out d⟩⟩
set_option maxRecDepth 100000 in
set_option maxHeartbeats 8000000 in
theorem rof_yesK:rof_yesSDef.LK:=by
         intro k _ _ v _ _ _ w _ hk22
         iterate 7 intro _
         intro hLB _ _ ts cap _ _ _ hLBw _ _ hBF3 _ zE hN
         iterate 191 intro _
         intro j _ n
         iterate 7 intro _
         intro b o _ hTK _ _ _ m _ ln
         iterate 17 intro _
         intro hXr
         iterate 4 intro _
         intro EB
         iterate 189 intro _
         intro kd p fr
         iterate 200 intro _
         intro e
         iterate 185 intro _
         intro B hB U hI10 hS10 hE10
         iterate 4 intro _
         cases B with
         | false=>
          go_wp2
          go_meet
          refine⟨j,n+ln,rfl,hE10,hS10,hI10,Lib.hid (.inl ⟨rfl,rfl,?_⟩)⟩
          rcases hB with ⟨h,_⟩ | ⟨_,h⟩
          ·cases h
          ·exact h
         | true=>
          obtain⟨c9,hlt9⟩:∃ h:j+1<ts.length,lookB e m.c ts[j+1].c=true:=by
           rcases hB with ⟨_,h⟩ | ⟨h,_⟩
           ·exact h
           ·cases h
          have i2:(0:Int)≤(j:Int)+1∧(j:Int)+1<(ts.length:Int):=by omega
          have hjn:((j:Int)+1).toNat=j+1:=by omega
          obtain⟨dl,hdl⟩:∃ dl,ts[j+1].c.len=dl:=⟨_,rfl⟩
          have hdl1:=(hN.out _ (List.getElem_mem c9)).len
          rw [hdl] at hdl1
          go_upto_region 31 with fail
          have hgd:Gr U U.drew:=(Gr.refl U).drew
          have hE11:=hE10.gr hgd
          have hS11:=hS10.gr hgd
          have hI11:=hI10.by hgd
          obtain⟨a3,cap3,hsl,hsh⟩:=(hTK.out _ hI11.kp).shape
          injection hsl with q6 _ q7
          subst q6
          rcases hsh with hsh | ⟨b2,o2,q8,hbl2,hc2⟩
          ·omega
          injection q8 with q8
          injection q8 with q8 q9
          subst q8 q9
          clear q7
          have hcd:U.drew.cell? ⟨b,o+(j+1) * k,none⟩=some (.int .i64 dl):=by
           rw [← hk22.out,← hdl]
           exact hc2 (j+1) c9 0 _ rfl
          have hPU:Blk U.drew EB 30 (evZo kd p fr n (n+ln))∧U.drew.cell? ⟨b,o+(j+1) * k,none⟩=some (.int .i64 dl)∧b<U.drew.heap.size:=⟨hE11,hcd,hbl2⟩
          clear hE10 hS10 hI10 hcd hbl2 hc2 hgd
          refine wp_region_still (Keep 8 (fun y=>Blk y EB 30 (evZo kd p fr n (n+ln))∧y.cell? ⟨b,o+(j+1) * k,none⟩=some (.int .i64 dl)∧b<y.heap.size)) 10 rfl (by as_aux_lemma=>kernel_rfl) ?_
          show stillAny _ _ _ _ _ _ #[false,false,false,false,false,false,false,false,false,false] _ _
          generalize U.drew=V at *
          obtain⟨z7,f7⟩:=hE11.cel.2 7 _ rfl
          have zl:=hE11.lt
          have hwr:IntKind.i64.wrap (n+ln+dl)=n+ln+dl:=by rw [IntKind.wrap_i64];omega
          refine still_pure 0 (v:=.pointer (some ⟨EB,7,none⟩)) rfl (by as_aux_lemma=>kernel_rfl) (by as_aux_lemma=>kernel_rfl) (by as_aux_lemma=>kernel_rfl) (fun _=>hPU) rfl (fun w hw=>?_) ?_
          ·simp [execOp,go_sem] <;> (intros;omega)
          simp only [Act.put,zI,zS,zZ]
          refine still_pure 1 (v:=.int .i64 (n+ln)) rfl (by as_aux_lemma=>kernel_rfl) (by as_aux_lemma=>kernel_rfl) (by as_aux_lemma=>kernel_rfl) (fun _=>hPU) rfl (fun w hw=>?_) ?_
          ·replace hw:=hw (by decide)
           have hq0:=hw.1.lt
           have hq1:=(hw.1.cel.2 7 _ rfl).1
           (try simp at hq0 hq1)
           simp [execOp,go_sem,hq0,hq1]
          simp only [Act.put,zI,zS,zZ]
          refine still_pure 2 (v:=.slice (some ⟨b,o,none⟩) ts.length cap) rfl (by as_aux_lemma=>kernel_rfl) (by as_aux_lemma=>kernel_rfl) (by as_aux_lemma=>kernel_rfl) (fun _=>hPU) rfl (fun w hw=>?_) ?_
          ·simp [execOp,go_sem] <;> (intros;omega)
          simp only [Act.put,zI,zS,zZ]
          refine still_pure 3 (v:=.int .i64 ((j:Int)+1)) rfl (by as_aux_lemma=>kernel_rfl) (by as_aux_lemma=>kernel_rfl) (by as_aux_lemma=>kernel_rfl) (fun _=>hPU) rfl (fun w hw=>?_) ?_
          ·simp [execOp,go_sem] <;> (intros;omega)
          simp only [Act.put,zI,zS,zZ]
          refine still_pure 4 (v:=.pointer (some ⟨b,o+(j+1) * k,none⟩)) rfl (by as_aux_lemma=>kernel_rfl) (by as_aux_lemma=>kernel_rfl) (by as_aux_lemma=>kernel_rfl) (fun _=>hPU) rfl (fun w hw=>?_) ?_
          ·replace hw:=hw (by decide)
           have hq0:=zE w
           have hq1:=i2
           have hq2:=hjn
           (try simp at hq0 hq1 hq2)
           simp [execOp,go_sem,hq0,hq1,hq2]
          simp only [Act.put,zI,zS,zZ]
          refine still_pure 5 (v:=.pointer (some ⟨b,o+(j+1) * k,none⟩)) rfl (by as_aux_lemma=>kernel_rfl) (by as_aux_lemma=>kernel_rfl) (by as_aux_lemma=>kernel_rfl) (fun _=>hPU) rfl (fun w hw=>?_) ?_
          ·simp [execOp,go_sem] <;> (intros;omega)
          simp only [Act.put,zI,zS,zZ]
          refine still_pure 6 (v:=.int .i64 dl) rfl (by as_aux_lemma=>kernel_rfl) (by as_aux_lemma=>kernel_rfl) (by as_aux_lemma=>kernel_rfl) (fun _=>hPU) rfl (fun w hw=>?_) ?_
          ·replace hw:=hw (by decide)
           have hq0:=hw.2.2
           have hq1:=hw.2.1
           (try simp at hq0 hq1)
           simp [execOp,go_sem,hq0,hq1]
          simp only [Act.put,zI,zS,zZ]
          refine still_pure 7 (v:=.int .i64 (n+ln+dl)) rfl (by as_aux_lemma=>kernel_rfl) (by as_aux_lemma=>kernel_rfl) (by as_aux_lemma=>kernel_rfl) (fun _=>hPU) rfl (fun wy hw=>?_) ?_
          ·exact exec_add (.tmp 188) (.tmp 193) rfl (by simp [go_sem]) (by simp [go_sem]) hwr wy
          simp only [Act.put,zI,zS,zZ]
          refine still_next (j:=8) (by as_aux_lemma=>kernel_rfl) (by rfl) (fun R hR=>?_)
          (try simp only [zG,zH,zK])
          go_wp2_with fail
          refine only_normal (hR _ _ (Keep.step (fun h=>h)) ?_)
          clear hR R
          simp only [Act.put,zI,zS,zZ]
          refine still_next (j:=9) (by as_aux_lemma=>kernel_rfl) (by rfl) (fun R hR=>?_)
          (try simp only [zG,zH,zK])
          go_wp2_with fail
          refine only_normal (hR _ _ (fun i hn h hi=>?_) ?_)
          ·exfalso
           rcases (show i=0∨i=1∨i=2∨i=3∨i=4∨i=5∨i=6∨i=7 by omega) with rfl | rfl | rfl | rfl | rfl | rfl | rfl | rfl
           ·exact absurd ⟨_,rfl,⟨0,.phase⟩,by simp,rfl,rfl⟩ hn
           ·exact absurd ⟨_,rfl,⟨1,.phase⟩,by simp,rfl,rfl⟩ hn
           ·exact absurd ⟨_,rfl,⟨2,.phase⟩,by simp,rfl,rfl⟩ hn
           ·exact absurd ⟨_,rfl,⟨3,.phase⟩,by simp,rfl,rfl⟩ hn
           ·exact absurd ⟨_,rfl,⟨4,.phase⟩,by simp,rfl,rfl⟩ hn
           ·exact absurd ⟨_,rfl,⟨5,.phase⟩,by simp,rfl,rfl⟩ hn
           ·exact absurd ⟨_,rfl,⟨6,.phase⟩,by simp,rfl,rfl⟩ hn
           ·exact absurd ⟨_,rfl,⟨7,.phase⟩,by simp,rfl,rfl⟩ hn
          clear hR R
          simp only [Act.put,zI,zS,zZ]
          refine still_done (by as_aux_lemma=>kernel_rfl) ?_
          have hEn:=hE11.set 7 (.int .i64 (n+ln+dl))
          have hSn:=hS11.other (p:=⟨EB,7,none⟩) (by simp;omega) (.int .i64 (n+ln+dl))
          have hIn:=hI11.farc hLB hLBw hBF3 (p:=⟨EB,7,none⟩) (by simp;omega) (fun x hx=>by have:=hXr x hx;simp;omega) (.int .i64 (n+ln+dl))
          go_wp2
          go_meet
          exact⟨j+1,n+ln+dl,by go_num,hEn,hSn,hIn,Lib.hid (.inr ⟨rfl,c9,hlt9,by rw [hdl]⟩)⟩
set_option maxRecDepth 100000 in
set_option maxHeartbeats 8000000 in
theorem rof_yesL:rof_yesVDef.LL:=by
          intro k _ _ v _ _ _ w
          iterate 9 intro _
          intro hLB
          iterate 7 intro _
          intro hLBw _ _ hBF3
          iterate 194 intro _
          intro j _ n
          iterate 8 intro _
          intro o
          iterate 22 intro _
          intro hXr
          iterate 4 intro _
          intro EB
          iterate 5 intro _
          intro SB
          iterate 183 intro _
          intro kd p fr s hvs
          iterate 562 intro _
          intro tt _ _ hps
          iterate 4 intro _
          intro zn zi _ _ hzn hzi bk hbk _ _ w13 _ _ hE13 hS13 hI13
          iterate 4 intro _
          cases bk with
          | true=>
           have hsb:=of_decide_eq_true hbk.out
           have hz0:zn=⟨#[]⟩:=by rw [← hzn.out,hsb];rfl
           have hi0:zi=0:=by rw [← hzi.out,hsb];rfl
           have hE14:Blk w13 EB 30 [.int .i64 kd,.int .i64 p,.int .i64 fr,.string zn,.int .i64 zi,.int .i64 0,.int .i64 n,.int .i64 tt]:=by rw [hz0,hi0];exact hE13
           have hO:Hid ((0:Int)=(if zn.size=0 then 0 else zi+(tt - n))):=Lib.hid (by rw [hz0];rfl)
           clear hsb hz0 hi0
           go_wp2
           go_meet
           exact⟨0,hE14,hI13,hO⟩
          | false=>
           have hsb:s≠blkS:=of_decide_eq_false hbk.out
           have hk0:s.k≠0:=by
            rcases hvs with h | h
            ·exact absurd h hsb
            ·have:=h.k;omega
           have hsn:s.nm=zn:=by rw [← hzn.out];unfold relN;rw [if_neg hk0]
           have hsa:s.an=zi:=by rw [← hzi.out];unfold relI;rw [if_neg hk0]
           have hnz:zn.size≠0:=fun h=>hsb (by rw [hps.out,hzn.out];exact plS_zero h _)
           have hO:Hid (zi+tt - n=(if zn.size=0 then 0 else zi+(tt - n))):=Lib.hid (by rw [if_neg hnz];omega)
           obtain⟨sl,hsl⟩:∃ sl,s.cells=sl:=⟨_,rfl⟩
           have hs1:sl[1]?=some (.string zn):=by rw [← hsl,← hsn];rfl
           have hs2:sl[2]?=some (.int .i64 zi):=by rw [← hsl,← hsa];rfl
           rw [hsl] at hS13
           replace hsl:=Lib.hid hsl
           clear hsb hk0 hsn hsa hnz hps
           have hwr1:IntKind.i64.wrap (zi+tt)=zi+tt:=by rw [IntKind.wrap_i64];omega
           have hwr2:IntKind.i64.wrap (zi+tt - n)=zi+tt - n:=by rw [IntKind.wrap_i64];omega
           go_upto_region 33 with fail
           refine wp_region_still (Keep 14 (fun y=>Blk y SB 79 sl∧∃ r i o,Blk y EB 30 [.int .i64 kd,.int .i64 p,.int .i64 fr,r,i,o,.int .i64 n,.int .i64 tt])) 20 rfl (by as_aux_lemma=>kernel_rfl) ?_
           show stillAny _ _ _ _ _ _ #[false,false,false,false,false,false,false,false,false,false,false,false,false,false,false,false,false,false,false,false] _ _
           have hgd:Gr w13 w13.drew:=(Gr.refl w13).drew
           have hE14:=hE13.gr hgd
           have hS14:=hS13.gr hgd
           have hI14:=hI13.by hgd
           have hPU:Blk w13.drew SB 79 sl∧∃ r i o,Blk w13.drew EB 30 [.int .i64 kd,.int .i64 p,.int .i64 fr,r,i,o,.int .i64 n,.int .i64 tt]:=⟨hS14,_,_,_,hE14⟩
           clear hE13 hS13 hI13 hgd
           generalize w13.drew=V at *
           refine still_pure 0 (v:=.pointer (some ⟨SB,1,none⟩)) rfl (by as_aux_lemma=>kernel_rfl) (by as_aux_lemma=>kernel_rfl) (by as_aux_lemma=>kernel_rfl) (fun _=>hPU) rfl (fun w hw=>?_) ?_
           ·simp [execOp,go_sem] <;> (intros;omega)
           simp only [Act.put,zI,zS,zZ]
           refine still_pure 1 (v:=.string zn) rfl (by as_aux_lemma=>kernel_rfl) (by as_aux_lemma=>kernel_rfl) (by as_aux_lemma=>kernel_rfl) (fun _=>hPU) rfl (fun w hw=>?_) ?_
           ·replace hw:=hw (by decide)
            have hq0:=hw.1.lt
            have hq1:=(hw.1.cel.2 1 _ hs1).1
            (try simp at hq0 hq1)
            simp [execOp,go_sem,hq0,hq1]
           simp only [Act.put,zI,zS,zZ]
           refine still_pure 2 (v:=.pointer (some ⟨SB,2,none⟩)) rfl (by as_aux_lemma=>kernel_rfl) (by as_aux_lemma=>kernel_rfl) (by as_aux_lemma=>kernel_rfl) (fun _=>hPU) rfl (fun w hw=>?_) ?_
           ·simp [execOp,go_sem] <;> (intros;omega)
           simp only [Act.put,zI,zS,zZ]
           refine still_pure 3 (v:=.pointer (some ⟨SB,2,none⟩)) rfl (by as_aux_lemma=>kernel_rfl) (by as_aux_lemma=>kernel_rfl) (by as_aux_lemma=>kernel_rfl) (fun _=>hPU) rfl (fun w hw=>?_) ?_
           ·simp [execOp,go_sem] <;> (intros;omega)
           simp only [Act.put,zI,zS,zZ]
           refine still_pure 4 (v:=.int .i64 zi) rfl (by as_aux_lemma=>kernel_rfl) (by as_aux_lemma=>kernel_rfl) (by as_aux_lemma=>kernel_rfl) (fun _=>hPU) rfl (fun w hw=>?_) ?_
           ·replace hw:=hw (by decide)
            have hq0:=hw.1.lt
            have hq1:=(hw.1.cel.2 2 _ hs2).1
            (try simp at hq0 hq1)
            simp [execOp,go_sem,hq0,hq1]
           simp only [Act.put,zI,zS,zZ]
           refine still_pure 5 (v:=.pointer (some ⟨SB,2,none⟩)) rfl (by as_aux_lemma=>kernel_rfl) (by as_aux_lemma=>kernel_rfl) (by as_aux_lemma=>kernel_rfl) (fun _=>hPU) rfl (fun w hw=>?_) ?_
           ·simp [execOp,go_sem] <;> (intros;omega)
           simp only [Act.put,zI,zS,zZ]
           refine still_pure 6 (v:=.pointer (some ⟨SB,2,none⟩)) rfl (by as_aux_lemma=>kernel_rfl) (by as_aux_lemma=>kernel_rfl) (by as_aux_lemma=>kernel_rfl) (fun _=>hPU) rfl (fun w hw=>?_) ?_
           ·simp [execOp,go_sem] <;> (intros;omega)
           simp only [Act.put,zI,zS,zZ]
           refine still_pure 7 (v:=.int .i64 zi) rfl (by as_aux_lemma=>kernel_rfl) (by as_aux_lemma=>kernel_rfl) (by as_aux_lemma=>kernel_rfl) (fun _=>hPU) rfl (fun w hw=>?_) ?_
           ·replace hw:=hw (by decide)
            have hq0:=hw.1.lt
            have hq1:=(hw.1.cel.2 2 _ hs2).1
            (try simp at hq0 hq1)
            simp [execOp,go_sem,hq0,hq1]
           simp only [Act.put,zI,zS,zZ]
           refine still_pure 8 (v:=.pointer (some ⟨EB,7,none⟩)) rfl (by as_aux_lemma=>kernel_rfl) (by as_aux_lemma=>kernel_rfl) (by as_aux_lemma=>kernel_rfl) (fun _=>hPU) rfl (fun w hw=>?_) ?_
           ·simp [execOp,go_sem] <;> (intros;omega)
           simp only [Act.put,zI,zS,zZ]
           refine still_pure 9 (v:=.int .i64 tt) rfl (by as_aux_lemma=>kernel_rfl) (by as_aux_lemma=>kernel_rfl) (by as_aux_lemma=>kernel_rfl) (fun _=>hPU) rfl (fun w hw=>?_) ?_
           ·replace hw:=hw (by decide)
            have hq0:=(ev_rd hw.2).1
            have hq1:=(ev_rd hw.2).2.1
            (try simp at hq0 hq1)
            simp [execOp,go_sem,hq0,hq1]
           simp only [Act.put,zI,zS,zZ]
           refine still_pure 10 (v:=.int .i64 (zi+tt)) rfl (by as_aux_lemma=>kernel_rfl) (by as_aux_lemma=>kernel_rfl) (by as_aux_lemma=>kernel_rfl) (fun _=>hPU) rfl (fun wy hw=>?_) ?_
           ·exact exec_add (.tmp 206) (.tmp 208) rfl (by simp [go_sem]) (by simp [go_sem]) hwr1 wy
           simp only [Act.put,zI,zS,zZ]
           refine still_pure 11 (v:=.pointer (some ⟨EB,6,none⟩)) rfl (by as_aux_lemma=>kernel_rfl) (by as_aux_lemma=>kernel_rfl) (by as_aux_lemma=>kernel_rfl) (fun _=>hPU) rfl (fun w hw=>?_) ?_
           ·simp [execOp,go_sem] <;> (intros;omega)
           simp only [Act.put,zI,zS,zZ]
           refine still_pure 12 (v:=.int .i64 n) rfl (by as_aux_lemma=>kernel_rfl) (by as_aux_lemma=>kernel_rfl) (by as_aux_lemma=>kernel_rfl) (fun _=>hPU) rfl (fun w hw=>?_) ?_
           ·replace hw:=hw (by decide)
            have hq0:=(ev_rd hw.2).1
            have hq1:=(ev_rd hw.2).2.2
            (try simp at hq0 hq1)
            simp [execOp,go_sem,hq0,hq1]
           simp only [Act.put,zI,zS,zZ]
           refine still_pure 13 (v:=.int .i64 (zi+tt - n)) rfl (by as_aux_lemma=>kernel_rfl) (by as_aux_lemma=>kernel_rfl) (by as_aux_lemma=>kernel_rfl) (fun _=>hPU) rfl (fun wy hw=>?_) ?_
           ·exact exec_sub (.tmp 209) (.tmp 211) rfl (by simp [go_sem]) (by simp [go_sem]) hwr2 wy
           simp only [Act.put,zI,zS,zZ]
           have e13:=hE14.cel.2 3 (.string ⟨#[]⟩) rfl
           have z3:=e13.1
           have f3:=e13.2
           clear e13
           have e14:=hE14.cel.2 4 (.int .i64 0) rfl
           have z4:=e14.1
           have f4:=e14.2
           clear e14
           have e15:=hE14.cel.2 5 (.int .i64 0) rfl
           have z5:=e15.1
           have f5:=e15.2
           clear e15
           have zl:=hE14.lt
           refine still_next (j:=14) (by as_aux_lemma=>kernel_rfl) (by rfl) (fun R hR=>?_)
           (try simp only [zG,zH,zK])
           go_wp2_with fail
           refine only_normal (hR _ _ (Keep.step (fun h=>h)) ?_)
           clear hR R
           simp only [Act.put,zI,zS,zZ]
           refine still_next (j:=15) (by as_aux_lemma=>kernel_rfl) (by rfl) (fun R hR=>?_)
           (try simp only [zG,zH,zK])
           go_wp2_with fail
           refine only_normal (hR _ _ (Keep.step (fun h=>⟨h.1.other (by simp;omega) _,ev_st3 h.2 _⟩)) ?_)
           clear hR R
           simp only [Act.put,zI,zS,zZ]
           refine still_next (j:=16) (by as_aux_lemma=>kernel_rfl) (by rfl) (fun R hR=>?_)
           (try simp only [zG,zH,zK])
           go_wp2_with fail
           refine only_normal (hR _ _ (Keep.step (fun h=>h)) ?_)
           clear hR R
           simp only [Act.put,zI,zS,zZ]
           refine still_next (j:=17) (by as_aux_lemma=>kernel_rfl) (by rfl) (fun R hR=>?_)
           (try simp only [zG,zH,zK])
           go_wp2_with fail
           refine only_normal (hR _ _ (Keep.step (fun h=>⟨h.1.other (by simp;omega) _,ev_st4 h.2 _⟩)) ?_)
           clear hR R
           simp only [Act.put,zI,zS,zZ]
           refine still_next (j:=18) (by as_aux_lemma=>kernel_rfl) (by rfl) (fun R hR=>?_)
           (try simp only [zG,zH,zK])
           go_wp2_with fail
           refine only_normal (hR _ _ (Keep.step (fun h=>h)) ?_)
           clear hR R
           simp only [Act.put,zI,zS,zZ]
           refine still_next (j:=19) (by as_aux_lemma=>kernel_rfl) (by rfl) (fun R hR=>?_)
           (try simp only [zG,zH,zK])
           go_wp2_with fail
           refine only_normal (hR _ _ (Keep.step (fun h=>⟨h.1.other (by simp;omega) _,ev_st5 h.2 _⟩)) ?_)
           clear hR R
           simp only [Act.put,zI,zS,zZ]
           refine still_done (by as_aux_lemma=>kernel_rfl) ?_
           (try simp only [zG,zH,zK,zI,zS,zZ])
           have hEn:=((hE14.set 3 (.string zn)).set 4 (.int .i64 zi)).set 5 (.int .i64 (zi+tt - n))
           have hIn:=((hI14.farc hLB hLBw hBF3 (p:=⟨EB,3,none⟩) (by simp;omega) (fun x hx=>by have:=hXr x hx;simp;omega) (.string zn)).farc hLB hLBw hBF3 (p:=⟨EB,4,none⟩) (by simp;omega) (fun x hx=>by have:=hXr x hx;simp;omega) (.int .i64 zi)).farc hLB hLBw hBF3 (p:=⟨EB,5,none⟩) (by simp;omega) (fun x hx=>by have:=hXr x hx;simp;omega) (.int .i64 (zi+tt - n))
           go_wp2
           go_meet
           exact⟨zi+tt - n,hEn,hIn,hO⟩
set_option maxRecDepth 100000 in
set_option maxHeartbeats 8000000 in
theorem rof_yesY:rof_yesVDef.LY:=by
          intro k k7
          iterate 5 intro _
          intro w _ _ hk7 _ _ _ w1 w2 LB hLB _ w3
          iterate 5 intro _
          intro hLBw BF _ hBF3
          iterate 195 intro _
          intro acc n bf lv
          iterate 29 intro _
          intro hXr
          iterate 4 intro _
          intro EB
          iterate 189 intro _
          intro kd p fr
          iterate 193 intro _
          intro w9
          iterate 4 intro _
          intro e
          iterate 364 intro _
          intro j2 tt _ _ _ hj2 _ _ hal2 zn zi _ hF
          iterate 6 intro _
          intro w13 _ _ hE13 hS13 hI13 wc
          iterate 178 intro _
          intro hcut
          obtain⟨O,hE15,hI15,hO⟩:=hcut
          obtain⟨hAb2,htk2,hof2⟩:=hF.out O hO.out
          have hIn:∀ x:Ev,Gr wc wc:=fun _=>Gr.refl _
          clear hIn hF hO hE13 hS13 hI13
          obtain⟨U3,hU3⟩:∃ U3,wc=U3:=⟨_,rfl⟩
          rw [hU3] at hE15 hI15 ⊢
          clear hU3
          obtain⟨xe,hxe⟩:∃ xe:Ev,(⟨kd,p,fr,zn,zi,O,n,tt⟩:Ev)=xe:=⟨_,rfl⟩
          rw [hxe] at hAb2 hof2
          obtain⟨ll,hxl⟩:∃ ll,xe.cells=ll:=⟨_,rfl⟩
          have hEl:Blk U3 EB 30 ll:=by rw [← hxl,← hxe];exact hE15
          have hl8:ll.length=8:=by rw [← hxl];rfl
          have hone8:∀ u∈ll,u.oneCell'=true:=by rw [← hxl];exact Ev.one xe
          have hll3:ll[3]?=some (.string zn):=by rw [← hxl,← hxe];rfl
          have hll5:ll[5]?=some (.int .i64 O):=by rw [← hxl,← hxe];rfl
          have hll7:ll[7]?=some (.int .i64 tt):=by rw [← hxl,← hxe];rfl
          obtain⟨ra,rc,hlv⟩:∃ ra rc,lv=.slice ra acc.length rc:=own_len hI15.row
          subst hlv
          obtain⟨L,hL⟩:∃ L,acc.length=L:=⟨_,rfl⟩
          rw [hL] at hI15 hXr hal2
          replace hL:=Lib.hid hL
          replace hxe:=Lib.hid hxe
          replace hxl:=Lib.hid hxl
          replace hof2:=Lib.hid hof2
          replace hAb2:=Lib.hid hAb2
          replace htk2:=Lib.hid htk2
          clear hE15
          go_upto_region 34 with fail
          have hg16:=(Gr.refl U3).alloc (.cells ll.toArray 30)
          have hI16:=hI15.by hg16
          have hE16:=hEl.gr hg16
          have hrow6:=hI16.row
          rw [hL.out] at hrow6
          have hlb5:=hI15.lb
          have v0:=hlb5.lt
          have v3:=(hlb5.cel.2 3 _ rfl).1
          have hrd:=Rd.new U3 ll.toArray 30 1 8 1 (by simpa using hl8)
          have hL64:L≤64:=by omega
          have hWz:BF+1≤(U3.alloc (.cells ll.toArray 30)).heap.size:=by have:=hI16.bfb.lt;omega
          have hEBr:∀ g,(Value.slice ra L rc).ownBlock=some g→g≠EB:=fun g hg=>by have:=hXr g hg;omega
          obtain⟨ic,hic,hic0,hic1,hic2⟩:=info_parts infoEvz
          clear hlb5 hI15
          have hEr:U3.heap[EB]?=some (.cells ll.toArray 30 (0,0)):=hEl
          have HS:Hid (∀ w',Calls Tryz.prog 45 #[.string zn,.int .i64 O] w' fun e w''=>e=.returned (.agg (plS zn O).cells.toArray)∧Gr w' w''):=Lib.hid fun w'=>rsource_any zn O w'
          obtain⟨pl,hpl⟩:∃ pl,(plS zn O).cells=pl:=⟨_,rfl⟩
          rw [hpl] at HS
          have hpl7:pl.length=k7:=by rw [← hpl];exact hk7.out
          have hplo:∀ u∈pl,u.oneCell'=true:=by rw [← hpl];exact Sr.one _
          have hplb:Hid (pl.length=bf.cells.length):=Lib.hid (by rw [← hpl];rfl)
          replace hpl:=Lib.hid hpl
          go_upto_region 35 with (first
           | ((with_reducible refine wpList_load_row ?_ 30 (.tmp 18) ?_ EB ?_ 30 ll.toArray (0,0) _ hEr Tryz.underlying30 ?_ ?_ ?_);(· rfl);(· rfl);(· rfl);(· rfl);(· rw [List.size_toArray,hl8];exact infoEvt1))
           | ((with_reducible refine wpList_bs1 ?_ 22 30 (.tmp 218) ?_ 8 (by as_aux_lemma=>kernel_rfl) (by as_aux_lemma=>kernel_rfl) (by omega) (by omega) ll hl8 ?_ ?_);(· rfl);(· rfl);(· rfl))
           | (at_builtin;go_loud (with_reducible refine wpList_append_rd ?_ (.tmp 217) (.tmp 219) 22 ?_ (BF+1) 30 ic (.agg #[.int .i64 0,.int .i64 0,.int .i64 0,.string ⟨#[]⟩,.int .i64 0,.int .i64 0,.int .i64 0,.int .i64 0]) 8 72 (by as_aux_lemma=>kernel_rfl) hic hic0 hic1 hic2 ?_ ?_ (.slice ra L rc) L (eflat acc.reverse) ?_ hrow6 (.slice (some ⟨U3.heap.size,0,none⟩) 1 1) 1 ll ?_ hrd hone8 ?_ ?_ ?_ ?_);(· rfl);(· rfl);(· rfl);(· decide);(· rfl);(· rfl);(· unfold maxLen;omega);(· omega);(· exact hWz);intro v9 w9 hown9 hgrow9;obtain⟨p9,c9,rfl⟩:=own_shape hown9;have hge':∀ k,(Value.slice ra L rc).ownBlock=some k→BF+1≤k:=(by intro k hk;exact own_ge hrow6 k hk);have hlb9:=hI16.lb.grown hgrow9 (fun e=>by have:=hge' _ e;omega);have x9:=hlb9.lt;obtain⟨x3,xf3⟩:=hlb9.cel.2 3 _ rfl))
          have hLs:=hL.out
          subst hLs
          have hown9':w9.ownsRow (BF+1) 30 8 (.slice p9 (acc.length+1) c9) (acc.length+1) (eflat acc.reverse ++ xe.cells):=by rw [hxl.out];exact hown9
          have hIp:=OgI.push hI16 hLB hLBw hBF3 xe hown9' hgrow9
          have hE9:=(hE16.grown hgrow9 (fun e=>absurd rfl (hEBr _ e))).other (p:=⟨LB,3,none⟩) (by simp;omega) (.slice p9 (acc.length+1) c9)
          clear hlb9 x9 x3 xf3 hE16 hEl hI16 hown9 hown9' hgrow9 hrow6 v0 v3
          have u1:=hE9.lt
          have u3:=(hE9.cel.2 3 _ hll3).1
          have u5:=(hE9.cel.2 5 _ hll5).1
          have u7:=(hE9.cel.2 7 _ hll7).1
          have hIp9:=Lib.hid hIp
          clear hIp hE9 hll3 hll5 hll7 hrd hl8 hone8 hXr hEBr hic hic0 hic1 hic2
          generalize w9.setCell ⟨LB,3,none⟩ (.slice p9 (acc.length+1) c9)=W10 at *
          refine wp_region_gr_tail 7 (by as_aux_lemma=>kernel_rfl) (by as_aux_lemma=>kernel_rfl) (fun hq1 hq2=>?_)
          simp only [List.take_succ_cons,List.take_zero,List.drop_succ_cons,List.drop_zero]
          repeat (first | go_big_quiet_skip | (go_big_quiet_want;go_big_quiet_op;first | go_big_quiet_on | (apply Exists.intro;refine⟨fun _=>?_,?_⟩;(· ((go_at_call 45;exact gr_call (HS.out _))));go_big_quiet_on)))
          refine wpQuiet_nil ?_
          clear hq1 hq2
          rintro w17 ⟨⟨_,hg17⟩,rfl⟩
          obtain⟨hc17,hf17⟩:=hg17.cells
          have hz17:=hg17.size
          (try simp at hz17);(try have hl17_0_0:w.heap.size<w17.heap.size:=by omega);(try have hm17_0_0:w.heap.size≤w17.heap.size:=by omega);(try have hl17_0_1:w.heap.size+1<w17.heap.size:=by omega);(try have hl17_0_2:w.heap.size+2<w17.heap.size:=by omega);(try have hl17_1_0:w1.heap.size<w17.heap.size:=by omega);(try have hm17_1_0:w1.heap.size≤w17.heap.size:=by omega);(try have hl17_1_1:w1.heap.size+1<w17.heap.size:=by omega);(try have hl17_1_2:w1.heap.size+2<w17.heap.size:=by omega);(try have hl17_2_0:w2.heap.size<w17.heap.size:=by omega);(try have hm17_2_0:w2.heap.size≤w17.heap.size:=by omega);(try have hl17_2_1:w2.heap.size+1<w17.heap.size:=by omega);(try have hl17_2_2:w2.heap.size+2<w17.heap.size:=by omega);(try have hl17_3_0:w3.heap.size<w17.heap.size:=by omega);(try have hm17_3_0:w3.heap.size≤w17.heap.size:=by omega);(try have hl17_3_1:w3.heap.size+1<w17.heap.size:=by omega);(try have hl17_3_2:w3.heap.size+2<w17.heap.size:=by omega);(try have hl17_4_0:w4.heap.size<w17.heap.size:=by omega);(try have hm17_4_0:w4.heap.size≤w17.heap.size:=by omega);(try have hl17_4_1:w4.heap.size+1<w17.heap.size:=by omega);(try have hl17_4_2:w4.heap.size+2<w17.heap.size:=by omega);(try have hl17_5_0:w5.heap.size<w17.heap.size:=by omega);(try have hm17_5_0:w5.heap.size≤w17.heap.size:=by omega);(try have hl17_5_1:w5.heap.size+1<w17.heap.size:=by omega);(try have hl17_5_2:w5.heap.size+2<w17.heap.size:=by omega);(try have hl17_6_0:w6.heap.size<w17.heap.size:=by omega);(try have hm17_6_0:w6.heap.size≤w17.heap.size:=by omega);(try have hl17_6_1:w6.heap.size+1<w17.heap.size:=by omega);(try have hl17_6_2:w6.heap.size+2<w17.heap.size:=by omega);(try have hl17_7_0:w7.heap.size<w17.heap.size:=by omega);(try have hm17_7_0:w7.heap.size≤w17.heap.size:=by omega);(try have hl17_7_1:w7.heap.size+1<w17.heap.size:=by omega);(try have hl17_7_2:w7.heap.size+2<w17.heap.size:=by omega);(try have hl17_8_0:w8.heap.size<w17.heap.size:=by omega);(try have hm17_8_0:w8.heap.size≤w17.heap.size:=by omega);(try have hl17_8_1:w8.heap.size+1<w17.heap.size:=by omega);(try have hl17_8_2:w8.heap.size+2<w17.heap.size:=by omega);(try have hl17_9_0:w9.heap.size<w17.heap.size:=by omega);(try have hm17_9_0:w9.heap.size≤w17.heap.size:=by omega);(try have hl17_9_1:w9.heap.size+1<w17.heap.size:=by omega);(try have hl17_9_2:w9.heap.size+2<w17.heap.size:=by omega);(try have hl17_10_0:w10.heap.size<w17.heap.size:=by omega);(try have hm17_10_0:w10.heap.size≤w17.heap.size:=by omega);(try have hl17_10_1:w10.heap.size+1<w17.heap.size:=by omega);(try have hl17_10_2:w10.heap.size+2<w17.heap.size:=by omega);(try have hl17_11_0:w11.heap.size<w17.heap.size:=by omega);(try have hm17_11_0:w11.heap.size≤w17.heap.size:=by omega);(try have hl17_11_1:w11.heap.size+1<w17.heap.size:=by omega);(try have hl17_11_2:w11.heap.size+2<w17.heap.size:=by omega);(try have hl17_12_0:w12.heap.size<w17.heap.size:=by omega);(try have hm17_12_0:w12.heap.size≤w17.heap.size:=by omega);(try have hl17_12_1:w12.heap.size+1<w17.heap.size:=by omega);(try have hl17_12_2:w12.heap.size+2<w17.heap.size:=by omega);(try have hl17_13_0:w13.heap.size<w17.heap.size:=by omega);(try have hm17_13_0:w13.heap.size≤w17.heap.size:=by omega);(try have hl17_13_1:w13.heap.size+1<w17.heap.size:=by omega);(try have hl17_13_2:w13.heap.size+2<w17.heap.size:=by omega);(try have hl17_14_0:w14.heap.size<w17.heap.size:=by omega);(try have hm17_14_0:w14.heap.size≤w17.heap.size:=by omega);(try have hl17_14_1:w14.heap.size+1<w17.heap.size:=by omega);(try have hl17_14_2:w14.heap.size+2<w17.heap.size:=by omega);(try have hl17_15_0:w15.heap.size<w17.heap.size:=by omega);(try have hm17_15_0:w15.heap.size≤w17.heap.size:=by omega);(try have hl17_15_1:w15.heap.size+1<w17.heap.size:=by omega);(try have hl17_15_2:w15.heap.size+2<w17.heap.size:=by omega);(try have hl17_16_0:w16.heap.size<w17.heap.size:=by omega);(try have hm17_16_0:w16.heap.size≤w17.heap.size:=by omega);(try have hl17_16_1:w16.heap.size+1<w17.heap.size:=by omega);(try have hl17_16_2:w16.heap.size+2<w17.heap.size:=by omega)
          have hIp17:=hIp9.out.by hg17
          have st:=st_blk (P:=Tryz.prog) hIp17.bfb hplb.out hplo
          have hIf:=hIp17.setbf hLB hLBw hBF3 (plS zn O)
          rw [hpl.out] at hIf
          have yb:=hIp17.bfb.lt
          clear u1 u3 u5 u7 hIp17 hIp9 HS hc17 hf17
          go_wp2
          go_roundw
          case rel=>exact⟨j2+1,xe :: acc,tt,plS zn O,_,hj2,by go_num,rfl,hIf,Lib.hid ⟨hAb2.out,by rw [List.length_cons];exact hal2,htk2.out,hof2.out⟩⟩
          case measure=>simp [RowKit.intOf];omega
set_option maxRecDepth 100000 in
set_option maxHeartbeats 8000000 in
theorem rof_yesV:rof_yesSDef.LV:=rof_yesVDef.h rof_yesL rof_yesY
theorem rof_yesS:rof_yesQDef.LS:=rof_yesSDef.h rof_yesK rof_yesV
theorem rof_yesQ:rof_yesPDef.LQ:=rof_yesQDef.h rof_yesJ rof_yesS
theorem rof_yesP:rof_yesDef.LP:=rof_yesPDef.h rof_yesH rof_yesI rof_yesQ
theorem rof_yes (k:Nat) (hk22:22=k) (k7:Nat) (hk7:7=k7) (cs:List CM) (v:Value) (title:ByteArray) (base:Int) (drop:Bool) (w:World) (h:TrR w v cs) (hok:∀ c∈cs,ClOk c.c) (ht:title.size≤140737488355328)
  (ho:C19.okB base drop=true) (hvt:vtB (cs.map CM.c)=true) (hvl:vLine title=true) (hvc:∀ c∈nmC (cs.map CM.c),VC c) (htt:tot (nmC (cs.map CM.c))≤2147483647) (hln:(nmC (cs.map CM.c)).length≤64) :
  Calls Tryz.prog 21 #[v,.string title,.int .i64 base,.bool drop] w fun e w'=>∃ (l:El) (lv:Value) (E:Int),e=.returned (.tuple #[l.val lv,.int .i64 E])∧Gr w w'∧ElR w' lv l∧(∀ a n c,lv=.slice a n c→n≤c) ∧
   ((E=0∧∃ acc,ofR (nmC (cs.map CM.c)) [] 0=some acc∧l=⟨title,base,drop,acc.reverse⟩∧vEl l=true)∨(E=3∧l=⟨⟨#[]⟩,0,false,[]⟩∧∀ acc,ofR (nmC (cs.map CM.c)) [] 0=some acc→vEl ⟨title,base,drop,acc.reverse⟩=false)):=rof_yesDef.h rof_yesB rof_yesC rof_yesD2 rof_yesE2 rof_yesF2 rof_yesD3 rof_yesE3 rof_yesF3 rof_yesG rof_yesP rof_yesA k hk22 k7 hk7 cs v title base drop w h hok ht ho hvt hvl hvc htt hln
theorem rof_any (cs:List CM) (v:Value) (title:ByteArray) (base:Int) (drop:Bool) (w:World) (h:TrR w v cs) (hok:∀ c∈cs,ClOk c.c) (ht:title.size≤140737488355328) :
  Calls Tryz.prog 21 #[v,.string title,.int .i64 base,.bool drop] w fun e w'=>∃ (l:El) (lv:Value) (E:Int),e=.returned (.tuple #[l.val lv,.int .i64 E])∧Gr w w'∧ElR w' lv l∧(∀ a n c,lv=.slice a n c→n≤c)∧OfP (cs.map CM.c) title base drop l E:=by
 by_cases hg:C19.okB base drop=true∧vtB (cs.map CM.c)=true∧vLine title=true
 ·obtain⟨p1,p2,p3,_,_⟩:=nmC_parts hg.2.1
  refine (rof_yes 22 rfl 7 rfl cs v title base drop w h hok ht hg.1 hg.2.1 hg.2.2 p1 p2 p3).mono ?_
  rintro e w' ⟨l,lv,E,rfl,h1,h2,h3,h4⟩
  refine⟨l,lv,E,rfl,h1,h2,h3,?_⟩
  rcases h4 with ⟨rfl,h4⟩ | ⟨rfl,h4,h5⟩
  ·exact .inr (.inl ⟨hg,rfl,h4⟩)
  ·exact .inr (.inr ⟨hg,rfl,h4,h5⟩)
 ·refine (rof_no cs v title base drop w h hok ht hg).mono ?_
  rintro e w' ⟨rfl,h1⟩
  exact⟨⟨⟨#[]⟩,0,false,[]⟩,.slice none 0 0,1,rfl,h1,⟨EvsR.nil _,by decide,fun e he=>(by cases he),by decide⟩,fun a n c e=>(by injection e;omega),.inl ⟨hg,rfl,rfl⟩⟩
end Go.Proofs.YtgbiodnfpbhjiaaGreatDoor
