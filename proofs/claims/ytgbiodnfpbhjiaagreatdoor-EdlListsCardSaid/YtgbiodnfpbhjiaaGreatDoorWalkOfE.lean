/-
  The loop of Of of package edl.
  Conditions: the track lies in memory.
-/
import Derived.Test.YtgbiodnfpbhjiaaGreatDoorWalkOfL
import Derived.Laws.Rows
import Derived.Test.YtgbiodnfpbhjiaaGreatDoorMathCf
import Derived.Test.YtgbiodnfpbhjiaaGreatDoorWalkUe
namespace Go.Proofs.YtgbiodnfpbhjiaaGreatDoor
open Go.RowKit Go.Lib
set_option linter.unusedSimpArgs false
set_option linter.unusedVariables false
set_option maxRecDepth 20000 in
set_option maxHeartbeats 4000000 in
theorem eof_yes (k:Nat) (hk22:22=k) (cs:List CM) (v:Value) (title:ByteArray) (base:Int) (drop:Bool) (w:World) (h:TrR w v cs) (hok:∀ c∈cs,ClOk c.c) (ht:title.size≤140737488355328)
  (ho:C19.okB base drop=true) (hvt:vtB (cs.map CM.c)=true) (hvl:vLine title=true) (hvc:∀ c∈nmC (cs.map CM.c),VC c) (htt:tot (nmC (cs.map CM.c))≤2147483647) (hln:(nmC (cs.map CM.c)).length≤64) :
  Calls Tryz.prog 20 #[v,.string title,.int .i64 base,.bool drop] w fun e w'=>∃ (l:El) (lv:Value) (E:Int),e=.returned (.tuple #[l.val lv,.int .i64 E])∧Gr w w'∧ElR w' lv l∧(∀ a n c,lv=.slice a n c→n≤c) ∧
   ((E=0∧∃ acc,ofR (nmC (cs.map CM.c)) [] 0=some acc∧l=⟨title,base,drop,acc.reverse⟩∧vEl l=true)∨(E=3∧l=⟨⟨#[]⟩,0,false,[]⟩∧∀ acc,ofR (nmC (cs.map CM.c)) [] 0=some acc→vEl ⟨title,base,drop,acc.reverse⟩=false)):=by
 have hmf:=hmf_any Tryz.prog
 replace hk22:=Lib.hid hk22
 have HV:Hid (∀ w',Gr w w'→Calls Tryz.prog 50 #[v] w' fun e w''=>e=.returned (.bool true)∧Gr w' w''):=Lib.hid fun w' hg=>by rw [← hvt];exact vtrack_any cs v w' (h.gr hg) hok
 have HT:Hid (∀ w',Calls Tryz.prog 36 #[.string title] w' fun e w''=>e=.returned (.bool true)∧Gr w' w''):=Lib.hid fun w'=>by rw [← hvl];exact title_any title w' ht
 have HD:Hid (∀ w',Calls Tryz.prog 35 #[.int .i64 base,.bool drop] w' fun e w''=>e=.returned (.tuple #[.int .i64 (C19.dayN base drop),.int .i64 0])∧w'=w''):=Lib.hid fun w'=>C19.day_yes base drop w' ho
 have HN:Hid (∀ w',Gr w w'→Calls Tryz.prog 44 #[v] w' fun e w''=>∃ (ts:List CM) (a:Option Addr) (cap:Nat),e=.returned (.slice a ts.length cap)∧Gr w' w''∧TrR w'' (.slice a ts.length cap) ts∧ts.map CM.c=nmC (cs.map CM.c)):=Lib.hid fun w' hg=>(normal_any cs v w' (h.gr hg) hok).mono fun e w'' ⟨v',ts,q1,q2,q3,q4⟩=>by
  obtain⟨a,cap,rfl,_⟩:=q3.shape
  exact⟨ts,a,cap,q1,q2,q3,q4⟩
 have fin:=Lib.hid fun w1 (hg1:Gr (ofZ w) w1)=>ofZ_fin hg1
 unfold ofZ at fin
 generalize C19.dayN base drop=day at *
 generalize nmC (cs.map CM.c)=N at *
 clear h hok hvt hvl ho
 go_enter_defers Tryz.func20,Tryz.ntmps20
 go_upto_region 5 with (first
  | (go_at_call 35;(with_reducible refine (HD.out _).mono ?_);rintro e w0 ⟨rfl,rfl⟩)
  | (go_at_call 50;(with_reducible refine (HV.out _ ?_).mono ?_);(· exact (by repeat (first | with_reducible exact Gr.refl _ | with_reducible assumption | refine Gr.setCell ?_ (by first | omega | (simp;done) | (simp;omega)) _ | refine Gr.alloc ?_ _ | refine Gr.drew ?_ | refine Gr.drewN ?_ _ | refine Gr.trans ?_ (by with_reducible assumption))));rintro e w1 ⟨rfl,hg1⟩)
  | (go_at_call 36;(with_reducible refine (HT.out _).mono ?_);rintro e w2 ⟨rfl,hg2⟩))
 obtain⟨hgw,k0,k1⟩:=fin.out _ (hg1.trans hg2)
 have f0:=k0.lt
 obtain⟨c1,f1⟩:=k0.cel.2 0 _ rfl
 obtain⟨c2,f2⟩:=k0.cel.2 1 _ rfl
 obtain⟨c3,f3⟩:=k0.cel.2 2 _ rfl
 obtain⟨c4,f4⟩:=k0.cel.2 3 _ rfl
 go_upto_region 7 with fail
 have kk:=(((k0.set 0 (.string title)).set 1 (.int .i64 base)).set 2 (.bool drop)).set 3 (.slice none 0 0)
 simp only [zS,zZ] at kk
 have kk1:=(((k1.other (p:=⟨w.heap.size,0,none⟩) (by simp) (.string title)).other (p:=⟨w.heap.size,1,none⟩) (by simp) (.int .i64 base)).other (p:=⟨w.heap.size,2,none⟩) (by simp) (.bool drop)).other (p:=⟨w.heap.size,3,none⟩) (by simp) (.slice none 0 0)
 have hgk:Gr w ((((w2.setCell ⟨w.heap.size,0,none⟩ (.string title)).setCell ⟨w.heap.size,1,none⟩ (.int .i64 base)).setCell ⟨w.heap.size,2,none⟩ (.bool drop)).setCell ⟨w.heap.size,3,none⟩ (.slice none 0 0)):=(((hgw.setCell (Nat.le_refl _) _).setCell (Nat.le_refl _) _).setCell (Nat.le_refl _) _).setCell (Nat.le_refl _) _
 clear k0 k1 hgw hg1 hg2 c1 c2 c3 c4 f0 f1 f2 f3 f4 fin
 generalize (((w2.setCell ⟨w.heap.size,0,none⟩ (.string title)).setCell ⟨w.heap.size,1,none⟩ (.int .i64 base)).setCell ⟨w.heap.size,2,none⟩ (.bool drop)).setCell ⟨w.heap.size,3,none⟩ (.slice none 0 0)=W at *
 go_wp2_with (go_at_call 44;(with_reducible refine (HN.out _ hgk).mono ?_);rintro e w3 ⟨ts,a,cap,rfl,hg3,htr,htc⟩)
 have hI0:OfI w w3 title base drop (.slice none 0 0) [] w3:=⟨Kp.refl _ _,hgk.trans hg3,kk.gr hg3,kk1.gr hg3,rfl,.inl ⟨rfl,rfl⟩⟩
 have aE:∀ w,(isAgg 81).run Tryz.prog w=.ok true w:=Tryz.isAgg81
 have zE:∀ w,(Go.sizeOf 81).run Tryz.prog w=.ok k w:=fun w=>by rw [← hk22.out];exact Tryz.sizeOf81 w
 have hLB:=kk.gr hg3
 have hTK:Hid (∀ wr,Kp w3 w.heap.size wr→TrR wr (.slice a ts.length cap) ts):=Lib.hid fun wr hkp=>hkp.trk htr hLB (fun y e=>by cases e)
 clear hg3 kk kk1 hgk hLB
 have hN:Hid (∀ c∈ts,VC c.c):=Lib.hid fun c hc=>hvc _ (by rw [← htc];exact List.mem_map.2 ⟨c,hc,rfl⟩)
 have hlt:ts.length≤64:=by rw [← htc,List.length_map] at hln;exact hln
 rw [← htc] at htt
 replace htt:=Lib.hid htt
 replace htc:=Lib.hid htc
 clear hvc hln
 go_loopw [12,47] (fun at_ i wr=>∃ (j:Nat) (acc:List Ev) (n:Int) (lv:Value),j≤ts.length∧i=.int .i64 j∧at_=.int .i64 n∧OfI w w3 title base drop lv acc wr∧Hid (Ab acc n∧acc.length≤j∧n=tot ((ts.take j).map CM.c)∧ofR N [] 0=ofR ((ts.drop j).map CM.c) acc n)) (fun _ i _=>ts.length - (RowKit.intOf i).toNat)
 case atStart=>exact⟨0,[],0,.slice none 0 0,by omega,rfl,rfl,hI0,Lib.hid ⟨fun x hx=>(by cases hx),by simp,by simp [tot],by rw [← htc.out];rfl⟩⟩
 case round=>
  obtain⟨j,acc,n,lv,hj,rfl,rfl,hI,hM⟩:=hrel
  by_cases c1:j<ts.length
  ·have g1:decide ((j:Int)<ts.length)=true:=decide_eq_true (by omega)
   have hTR:=hTK.out _ hI.kp
   obtain⟨a',cap',hsl,hsh⟩:=hTR.shape
   injection hsl with e1 _ e3
   subst e1
   clear e3
   rcases hsh with hsh | ⟨b,o,rfl,hbl,hc⟩
   ·omega
   have hcell:∀ (x:Nat) (u:Value),ts[j].cells[x]?=some u→wr.cell? ⟨b,o+j * 22+x,none⟩=some u:=fun x u hu=>hc j c1 x u hu
   have hchm:=hTR.ch _ (List.getElem_mem c1)
   have hvcm:=hN.out _ (List.getElem_mem c1)
   have hmt:tot ((ts.take (j+1)).map CM.c)=tot ((ts.take j).map CM.c)+ts[j].c.len:=by
    rw [← List.take_append_getElem c1,List.map_append,tot_append]
    simp [tot]
   have hmd:(ts.drop j).map CM.c=ts[j].c :: (ts.drop (j+1)).map CM.c:=by rw [List.drop_eq_getElem_cons c1];rfl
   have hnt:tot ((ts.take (j+1)).map CM.c)≤2147483647:=by
    have:=htt.out
    rw [← List.take_append_drop (j+1) ts,List.map_append,tot_append] at this
    have h0:0≤tot ((ts.drop (j+1)).map CM.c):=tot_nonneg fun c hc=>by
     obtain⟨m,hm,rfl⟩:=List.mem_map.1 hc
     exact (hN.out m (List.mem_of_mem_drop hm)).vl
    omega
   have hn0:0≤tot ((ts.take j).map CM.c):=tot_nonneg fun c hc=>by
    obtain⟨m,hm,rfl⟩:=List.mem_map.1 hc
    exact (hN.out m (List.mem_of_mem_take hm)).vl
   obtain⟨hAb,hal,hnn,hof⟩:=hM.out
   rw [← hnn] at hmt hn0
   rw [hmt] at hnt
   rw [hmd,ofR] at hof
   generalize ts[j]=m at hcell hchm hvcm hmt hnt hof
   clear hc hTR hmd hM hnn
   have hone:=hchm.one
   obtain⟨ln,hln⟩:∃ ln,m.c.len=ln:=⟨_,rfl⟩
   have hl1:=hvcm.len
   rw [hln] at hmt hnt hof hl1
   replace hAb:=Lib.hid hAb
   replace hof:=Lib.hid hof
   replace hmt:=Lib.hid hmt
   obtain⟨l,hml⟩:∃ l,m.cells=l:=⟨_,rfl⟩
   have hlk:l.length=k:=by rw [← hml,← hk22.out];rfl
   have hl0:l[0]?=some (.int .i64 ln):=by rw [← hml,← hln];rfl
   have hlk1:l[1]?=some (.int .i64 m.c.kind):=by rw [← hml];rfl
   rw [hml] at hcell hone
   have la:Sem.run Tryz.prog (loadCellsFrom ⟨b,o+j * k,none⟩ 0 k #[]) wr=.ok l.toArray wr:=by rw [show j * k=j * 22 by rw [← hk22.out]];exact ld_row hlk hcell
   have st:Sem.run Tryz.prog (storeCells ⟨wr.heap.size,0,none⟩ l 0) (wr.alloc (.cells #[.int .i64 0,.int .i64 0,.int .i64 0,.string ⟨#[]⟩,.int .i64 0,.int .i64 0,.int .i64 0,.int .i64 0,.bool false,.int .i64 0,.string ⟨#[]⟩,.int .i64 0,.int .i64 0,.int .i64 0,.int .i64 0,.bool false,.int .i64 0,.int .i64 0,.int .i64 0,.string ⟨#[]⟩,.int .i64 0,.slice none 0 0] 81))=.ok () (wr.alloc (.cells l.toArray 81)):=st_new wr _ _ l (by rw [hlk,← hk22.out];exact infoClip) (by rw [hlk,← hk22.out];rfl) hone
   have hbx:Blk (wr.alloc (.cells l.toArray 81)) wr.heap.size 81 l:=Blk.new wr l 81
   have hI1:=hI.by ((Gr.refl wr).alloc (.cells l.toArray 81))
   have hch1:=hchm.gr ((Gr.refl wr).alloc (.cells l.toArray 81))
   have y0:=(hbx.cel.2 0 _ hl0).1
   have y1:=(hbx.cel.2 1 _ hlk1).1
   replace hml:=Lib.hid hml
   replace hln:=Lib.hid hln
   clear hcell hchm
   have hkl:Hid (l.length=k):=Lib.hid hlk
   by_cases ck:m.c.kind=0
   ·have q1:(m.c.kind == 0)=true:=by simp [ck]
    have hof2:ofR N [] 0=ofR ((ts.drop (j+1)).map CM.c) acc (n+ln):=by
     rw [hof.out,ofS_zero acc n ck];rfl
    replace ck:=Lib.hid ck
    replace hof2:=Lib.hid hof2
    go_wp2
    go_roundw
    case rel=>exact⟨j+1,acc,n+ln,lv,by omega,by go_num,rfl,hI1,Lib.hid ⟨fun x hx=>by have:=hAb.out x hx;omega,by omega,hmt.out.symm,hof2.out⟩⟩
    case measure=>simp [RowKit.intOf];omega
   ·have q1:(m.c.kind == 0)=false:=by simp [ck]
    replace ck:=Lib.hid ck
    have hlb1:=hI1.lb
    have x0:=hlb1.lt
    have x4:=(hlb1.cel.2 3 _ rfl).1
    obtain⟨ra,rc,hlv⟩:∃ ra rc,lv=.slice ra acc.length rc:=own_len hI.row
    subst hlv
    go_upto_region 14 with fail
    have hgA:=hI1.gr
    obtain⟨Xb,hXb⟩:∃ Xb,wr.heap.size=Xb:=⟨_,rfl⟩
    rw [hXb] at hbx y0 y1 ⊢
    clear la st
    generalize wr.alloc (.cells l.toArray 81)=W5 at *
    obtain⟨L,hL⟩:∃ L,acc.length=L:=⟨_,rfl⟩
    rw [hL] at x4 ⊢
    replace hL:=Lib.hid hL
    go_cut [84] from 62 to 85 (fun vb wx=>∃ B:Bool,vb=.bool B∧Gr W5 wx∧((B=true∧∃ x r,acc=x :: r∧x.t=n∧cntE x m.c=true)∨(B=false∧∀ x r,acc=x :: r→¬ (x.t=n∧cntE x m.c=true))))
    case first=>
     cases acc with
     | nil=>
      obtain rfl:L=0:=by rw [← hL.out];rfl
      refine wp_region_gr (by kernel_rfl) (by kernel_rfl) (fun hq1 hq2=>?_)
      repeat (first | go_big_quiet_skip | (go_big_quiet_want;go_big_quiet_op;first | go_big_quiet_on | (apply Exists.intro;refine⟨fun _=>?_,?_⟩;(· (fail));go_big_quiet_on)))
      refine wpQuiet_nil ?_
      clear hq1 hq2
      rintro w1 ⟨⟨_,hg1⟩,rfl⟩
      obtain⟨hc1,hf1⟩:=hg1.cells
      have hz1:=hg1.size
      (try simp at hz1);(try have hl1_0_0:w.heap.size<w1.heap.size:=by omega);(try have hm1_0_0:w.heap.size≤w1.heap.size:=by omega);(try have hl1_0_1:w.heap.size+1<w1.heap.size:=by omega);(try have hl1_0_2:w.heap.size+2<w1.heap.size:=by omega)
      go_wp2
      go_meet
      exact⟨false,rfl,(by repeat (first | refine Gr.setCell ?_ (by first | omega | (simp;done) | (simp;omega)) _ | refine Gr.alloc ?_ _ | refine Gr.drew ?_ | refine Gr.drewN ?_ _ | with_reducible assumption | with_reducible exact Gr.refl _ | refine Gr.trans ?_ (by with_reducible assumption))),.inr ⟨rfl,fun x r e=>by cases e⟩⟩
     | cons x r=>
      obtain⟨p,hp⟩:∃ p,r.length=p:=⟨_,rfl⟩
      have hrow:=evs_own hI1.row
      obtain⟨a2,cap2,e2,e3⟩:=hrow.shape
      injection e2 with e4 e5 e6
      subst e4
      clear e5 e6
      rcases e3 with e3 | ⟨g,o2,rfl,hxg,hcg⟩
      ·simp at e3
      have hce:∀ (y:Nat) (u:Value),x.cells[y]?=some u→W5.cell? ⟨g,o2+p * 8+y,none⟩=some u:=fun y u hu=>by
       have:=hcg p (by simp [hp]) y u
       simp [← hp] at this
       rw [← hp]
       exact this hu
      have d0:=hce 0 _ rfl
      have d1:=hce 1 _ rfl
      have d2:=hce 2 _ rfl
      have d3:=hce 3 _ rfl
      have d4:=hce 4 _ rfl
      have d5:=hce 5 _ rfl
      have d6:=hce 6 _ rfl
      have d7:=hce 7 _ rfl
      rw [Nat.add_zero] at d0
      have hlc:(x :: r).length=p+1:=by simp [hp]
      have hAx:=hAb.out x List.mem_cons_self
      have HC:Hid (∀ w',Gr W5 w'→Calls Tryz.prog 51 #[x.val,m.val] w' fun e w''=>e=.returned (.bool (cntE x m.c))∧Gr w' w''):=Lib.hid fun w' hg'=>econt_any x m w' (hch1.gr hg') (by omega)
      obtain⟨Kb,hKb⟩:∃ Kb,cntE x m.c=Kb:=⟨_,rfl⟩
      rw [hKb] at HC
      unfold Ev.val CM.val at HC
      rw [hml.out] at HC
      have lr:∀ y:GW W5,Sem.run Tryz.prog (loadCellsFrom ⟨Xb,0,none⟩ 0 k #[]) y.w=.ok l.toArray y.w:=fun y=>ld_cel hlk (hbx.cel.gr y.h)
      rw [hL.out] at hlc
      have hj1:((L:Int) - 1)=(p:Int):=by omega
      have hj2:(0:Int)≤(p:Int)∧(p:Int)<(L:Int):=by omega
      have hj3:decide (0<L)=true:=decide_eq_true (by omega)
      have hL2:L≤64:=by rw [← hL.out];omega
      clear hcg hrow hI1 hlb1 hI hlc hAx
      replace hp:=Lib.hid hp
      replace hKb:=Lib.hid hKb
      by_cases d8:x.t=n
      ·have q2:(x.t == n)=true:=by simp [d8]
       obtain⟨k8,hk8⟩:∃ k8,8=k8:=⟨_,rfl⟩
       have aE8:∀ w,(isAgg 30).run Tryz.prog w=.ok true w:=Tryz.isAgg30
       have zE8:∀ w,(Go.sizeOf 30).run Tryz.prog w=.ok k8 w:=fun w=>by rw [← hk8];exact Tryz.sizeOf30 w
       have hk80:¬ k8=0:=by omega
       have le:∀ y:GW W5,Sem.run Tryz.prog (loadCellsFrom ⟨g,o2+p * k8,none⟩ 0 k8 #[]) y.w=.ok x.cells.toArray y.w:=fun y=>by
        rw [show p * k8=p * 8 by rw [← hk8]]
        exact ld_row (by rw [← hk8];rfl) fun z u hu=>(y.h.cells.1 g _ hxg).trans (hce z u hu)
       rw [show p * 8=p * k8 by rw [← hk8]] at d7
       replace hk8:=Lib.hid hk8
       clear d0 d1 d2 d3 d4 d5 d6 hce
       refine wp_region_gr (by kernel_rfl) (by kernel_rfl) (fun hq1 hq2=>?_)
       repeat (first | go_big_quiet_skip | (go_big_quiet_want;go_big_quiet_op;first | go_big_quiet_on | (apply Exists.intro;refine⟨fun _=>?_,?_⟩;(· ((go_at_call 51;exact gr_call (HC.out _ (GW.h _)))));go_big_quiet_on)))
       refine wpQuiet_nil ?_
       clear hq1 hq2
       rintro w1 ⟨⟨_,hg1⟩,rfl⟩
       obtain⟨hc1,hf1⟩:=hg1.cells
       have hz1:=hg1.size
       (try simp at hz1);(try have hl1_0_0:w.heap.size<w1.heap.size:=by omega);(try have hm1_0_0:w.heap.size≤w1.heap.size:=by omega);(try have hl1_0_1:w.heap.size+1<w1.heap.size:=by omega);(try have hl1_0_2:w.heap.size+2<w1.heap.size:=by omega)
       go_wp2
       go_meet
       refine⟨Kb,rfl,hg1,?_⟩
       cases Kb
       ·exact .inr ⟨rfl,fun y s e hy=>by injection e with e1 e2;subst e1;rw [hKb.out] at hy;cases hy.2⟩
       ·exact .inl ⟨rfl,x,r,rfl,d8,hKb.out⟩
      ·have q2:(x.t == n)=false:=by simp [d8]
       refine wp_region_gr (by kernel_rfl) (by kernel_rfl) (fun hq1 hq2=>?_)
       repeat (first | go_big_quiet_skip | (go_big_quiet_want;go_big_quiet_op;first | go_big_quiet_on | (apply Exists.intro;refine⟨fun _=>?_,?_⟩;(· (fail));go_big_quiet_on)))
       refine wpQuiet_nil ?_
       clear hq1 hq2
       rintro w1 ⟨⟨_,hg1⟩,rfl⟩
       obtain⟨hc1,hf1⟩:=hg1.cells
       have hz1:=hg1.size
       (try simp at hz1);(try have hl1_0_0:w.heap.size<w1.heap.size:=by omega);(try have hm1_0_0:w.heap.size≤w1.heap.size:=by omega);(try have hl1_0_1:w.heap.size+1<w1.heap.size:=by omega);(try have hl1_0_2:w.heap.size+2<w1.heap.size:=by omega)
       go_wp2
       go_meet
       exact⟨false,rfl,(by repeat (first | refine Gr.setCell ?_ (by first | omega | (simp;done) | (simp;omega)) _ | refine Gr.alloc ?_ _ | refine Gr.drew ?_ | refine Gr.drewN ?_ _ | with_reducible assumption | with_reducible exact Gr.refl _ | refine Gr.trans ?_ (by with_reducible assumption))),.inr ⟨rfl,fun y s e hy=>by injection e with e1 e2;subst e1;exact d8 hy.1⟩⟩
    case rest=>
     obtain⟨B,rfl,hgc,hBc⟩:=hcut
     have hI2:=hI1.by hgc
     have hbx2:=hbx.gr hgc
     have hch2:=hch1.gr hgc
     have hW2:w.heap.size+2≤w3.heap.size:=by have:=hI0.eb.lt;omega
     have hgX:∀ g,Value.ownBlock (.slice ra acc.length rc)=some g→g<Xb:=fun g hg=>by
      have:=(hI.row.lt g hg).2
      omega
     clear hI1 hI hbx hch1 hgA hlb1 x0 x4 y0 y1 hgc
     cases B with
     | true=>
      obtain⟨x,r,hacc,hxt,hct⟩:∃ x r,acc=x :: r∧x.t=n∧cntE x m.c=true:=by
       rcases hBc with h | h
       ·exact h.2
       ·cases h.1
      subst hacc
      obtain⟨g,cap,hlv,hgs,hwg,hcl,hfz⟩:=hI2.last
      injection hlv with e1 e2 e3
      subst e1 e3
      have hgX2:=hgX g rfl
      obtain⟨p,hp⟩:∃ p,r.length=p:=⟨_,rfl⟩
      have hlc:(x :: r).length=p+1:=by simp [hp]
      have hLp:L=p+1:=by rw [← hL.out];exact hlc
      have hj1:((L:Int) - 1)=(p:Int):=by omega
      have hj2:(0:Int)≤(p:Int)∧(p:Int)<(L:Int):=by omega
      have hlb2:=hI2.lb
      have x0:=hlb2.lt
      have x4:=(hlb2.cel.2 3 _ rfl).1
      rw [hL.out] at x4
      have d7:=hcl 7 _ rfl
      have f7:=hfz (r.length * 8+7)
      rw [hp] at d7 f7
      have hof2:ofR N [] 0=ofR ((ts.drop (j+1)).map CM.c) (extE x ln :: r) (n+ln):=by
       rw [hof.out,ofS_some ck.out rfl ⟨hxt,hct⟩,hln.out];rfl
      have hAb2:Ab (extE x ln :: r) (n+ln):=hAb.out.ext (by omega) hxt
      have hAbx:-4611686018427387904≤x.o∧x.o≤4611686018427387904+2147483647:=by
       have:=hAb.out x List.mem_cons_self
       omega
      have hal2:(extE x ln :: r).length≤j+1:=by simp only [List.length_cons] at hal ⊢;omega
      have hI2':OfI w w3 title base drop (.slice (some ⟨g,0,none⟩) (r.length+1) rc) (x :: r) wc:=hI2
      have hI3:=hI2'.ext hW2 7 (by omega) (.int .i64 (n+ln)) ⟨x.k,x.p,x.fr,x.reel,x.i,x.o,x.f,n+ln⟩ rfl
      have hbx3:=hbx2.other (p:=⟨g,r.length * 8+7,none⟩) (by simp only;omega) (.int .i64 (n+ln))
      have hg3':wc.heap.size=(wc.setCell ⟨g,r.length * 8+7,none⟩ (.int .i64 (n+ln))).heap.size:=by simp
      rw [show r.length * 8+7=p * 8+7 by rw [hp]] at hI3 hbx3 hg3'
      replace hof2:=Lib.hid hof2
      replace hAb2:=Lib.hid hAb2
      clear hI2 hI2' hlb2 hBc hof hAb hct hcl hfz hlc hLp hch2 hbx2 hgX hwg
      go_upto_region 17 with fail
      generalize wc.setCell ⟨g,p * 8+7,none⟩ (.int .i64 (n+ln))=W6 at *
      obtain⟨g',cap',hlv,hgs6,hwg,hcl,hfz⟩:=hI3.last
      injection hlv with e1 e2 e3
      injection e1 with e1
      injection e1 with e1
      subst e1 e3
      clear e2
      have d3:=hcl 3 _ rfl
      have d5:=hcl 5 _ rfl
      have f5:=hfz (r.length * 8+5)
      rw [hp] at d3 d5 f5
      clear hcl hfz x0 x4 d7 f7 hj1 hj2
      obtain⟨zb,hzb⟩:∃ zb,x.reel.toList.isEmpty=zb:=⟨_,rfl⟩
      have hz2:=sz_iff x.reel
      rw [hzb] at hz2
      cases zb with
      | true=>
       have hxs:x.reel.size=0:=of_decide_eq_true hz2.symm
       have hE:(⟨x.k,x.p,x.fr,x.reel,x.i,x.o,x.f,n+ln⟩:Ev)=extE x ln:=by unfold extE;rw [if_pos hxs,hxt]
       rw [hE] at hI3
       replace hz2:=Lib.hid hz2
       replace hI3:=Lib.hid hI3
       clear hE hxs
       go_wp2
       go_roundw
       case rel=>exact⟨j+1,extE x ln :: r,n+ln,_,by omega,by go_num,rfl,hI3.out,Lib.hid ⟨hAb2.out,hal2,hmt.out.symm,hof2.out⟩⟩
       case measure=>simp [RowKit.intOf];omega
      | false=>
       have hxs:x.reel.size≠0:=of_decide_eq_false hz2.symm
       replace hz2:=Lib.hid hz2
       replace hI3:=Lib.hid hI3
       go_upto_region 18 with fail
       have hgd:Gr W6 W6.drew:=(Gr.refl W6).drew
       refine wp_region_still (Keep 7 (fun y=>y.cell? ⟨g,p * 8+5,none⟩=some (.int .i64 x.o)∧Blk y Xb 81 l∧g<y.heap.size)) 10 rfl (by kernel_rfl) ?_
       show stillAny _ _ _ _ _ _ #[false,false,false,false,false,false,false,false,false,false] _ _
       have hI3U:=hI3.out.by hgd
       have hPU:W6.drew.cell? ⟨g,p * 8+5,none⟩=some (.int .i64 x.o)∧Blk W6.drew Xb 81 l∧g<W6.drew.heap.size:=⟨(hgd.cells.1 g _ hgs6).trans d5,hbx3.gr hgd,Nat.lt_of_lt_of_le hgs6 hgd.size⟩
       have fU:=(hgd.cells.2 g (p * 8+5) hgs6).trans f5
       clear hI3 d3 d5 f5 hbx3 hgs6 hgd
       generalize W6.drew=U at *
       have hI4:=hI3U.ext hW2 5 (by omega) (.int .i64 (x.o+ln)) (extE x ln) (by unfold extE;rw [if_neg hxs,hxt];rfl)
       rw [show r.length * 8+5=p * 8+5 by rw [hp]] at hI4
       replace hI4:=Lib.hid hI4
       have hwr:IntKind.i64.wrap (x.o+ln)=x.o+ln:=by rw [IntKind.wrap_i64];omega
       have u0:=hPU.1
       have u1:=hPU.2.2
       refine still_pure 0 (v:=.pointer (some ⟨g,p * 8,none⟩)) rfl (by kernel_rfl) (by kernel_rfl) (by kernel_rfl) (fun _=>hPU) rfl (fun w hw=>?_) ?_
       ·simp [execOp,go_sem] <;> (intros;omega)
       simp only [Act.put,zI,zS,zZ]
       refine still_pure 1 (v:=.pointer (some ⟨g,p * 8,none⟩)) rfl (by kernel_rfl) (by kernel_rfl) (by kernel_rfl) (fun _=>hPU) rfl (fun w hw=>?_) ?_
       ·simp [execOp,go_sem] <;> (intros;omega)
       simp only [Act.put,zI,zS,zZ]
       refine still_pure 2 (v:=.pointer (some ⟨g,p * 8+5,none⟩)) rfl (by kernel_rfl) (by kernel_rfl) (by kernel_rfl) (fun _=>hPU) rfl (fun w hw=>?_) ?_
       ·simp [execOp,go_sem] <;> (intros;omega)
       simp only [Act.put,zI,zS,zZ]
       refine still_pure 3 (v:=.int .i64 x.o) rfl (by kernel_rfl) (by kernel_rfl) (by kernel_rfl) (fun _=>hPU) rfl (fun w hw=>?_) ?_
       ·replace hw:=hw (by decide)
        have hq0:=hw.2.2
        have hq1:=hw.1
        (try simp at hq0 hq1)
        simp [execOp,go_sem,hq0,hq1]
       simp only [Act.put,zI,zS,zZ]
       refine still_pure 4 (v:=.pointer (some ⟨Xb,0,none⟩)) rfl (by kernel_rfl) (by kernel_rfl) (by kernel_rfl) (fun _=>hPU) rfl (fun w hw=>?_) ?_
       ·simp [execOp,go_sem] <;> (intros;omega)
       simp only [Act.put,zI,zS,zZ]
       refine still_pure 5 (v:=.int .i64 ln) rfl (by kernel_rfl) (by kernel_rfl) (by kernel_rfl) (fun _=>hPU) rfl (fun w hw=>?_) ?_
       ·replace hw:=hw (by decide)
        have hq0:=hw.2.1.lt
        have hq1:=(hw.2.1.cel.2 0 _ hl0).1
        (try simp at hq0 hq1)
        simp [execOp,go_sem,hq0,hq1]
       simp only [Act.put,zI,zS,zZ]
       refine still_pure 6 (v:=.int .i64 (x.o+ln)) rfl (by kernel_rfl) (by kernel_rfl) (by kernel_rfl) (fun _=>hPU) rfl (fun wy hw=>?_) ?_
       ·simp [execOp,go_sem,hwr]
       simp only [Act.put,zI,zS,zZ]
       refine still_pick [7] (by kernel_rfl) (by decide) ?_
       intro i hi
       obtain rfl:i=7:=by simpa using hi
       refine still_one (by first | (simp only [List.getElem?_toArray,List.getElem?_cons_succ,List.getElem?_cons_zero];rfl) | rfl) (fun R hR=>?_)
       (try simp only [zG,zH,zK])
       go_wp2_with fail
       refine only_normal (hR _ _ (Keep.step (fun h=>h)) ?_)
       clear hR R
       simp only [Act.put,zI,zS,zZ]
       refine still_pick [8] (by kernel_rfl) (by decide) ?_
       intro i hi
       obtain rfl:i=8:=by simpa using hi
       refine still_one (by first | (simp only [List.getElem?_toArray,List.getElem?_cons_succ,List.getElem?_cons_zero];rfl) | rfl) (fun R hR=>?_)
       (try simp only [zG,zH,zK])
       go_wp2_with fail
       refine only_normal (hR _ _ (Keep.step (fun h=>h)) ?_)
       clear hR R
       simp only [Act.put,zI,zS,zZ]
       refine still_pick [9] (by kernel_rfl) (by decide) ?_
       intro i hi
       obtain rfl:i=9:=by simpa using hi
       refine still_one (by first | (simp only [List.getElem?_toArray,List.getElem?_cons_succ,List.getElem?_cons_zero];rfl) | rfl) (fun R hR=>?_)
       (try simp only [zG,zH,zK])
       go_wp2_with fail
       refine only_normal (hR _ _ (fun i hn h hi=>?_) ?_)
       ·exfalso
        rcases (show i=0∨i=1∨i=2∨i=3∨i=4∨i=5∨i=6 by omega) with rfl | rfl | rfl | rfl | rfl | rfl | rfl
        ·exact absurd ⟨_,rfl,⟨0,.phase⟩,by simp,rfl,rfl⟩ hn
        ·exact absurd ⟨_,rfl,⟨1,.phase⟩,by simp,rfl,rfl⟩ hn
        ·exact absurd ⟨_,rfl,⟨2,.phase⟩,by simp,rfl,rfl⟩ hn
        ·exact absurd ⟨_,rfl,⟨3,.phase⟩,by simp,rfl,rfl⟩ hn
        ·exact absurd ⟨_,rfl,⟨4,.phase⟩,by simp,rfl,rfl⟩ hn
        ·exact absurd ⟨_,rfl,⟨5,.phase⟩,by simp,rfl,rfl⟩ hn
        ·exact absurd ⟨_,rfl,⟨6,.phase⟩,by simp,rfl,rfl⟩ hn
       clear hR R
       simp only [Act.put,zI,zS,zZ]
       refine still_done (by kernel_rfl) ?_
       go_wp2
       go_roundw
       case rel=>exact⟨j+1,extE x ln :: r,n+ln,_,by omega,by go_num,rfl,hI4.out,Lib.hid ⟨hAb2.out,hal2,hmt.out.symm,hof2.out⟩⟩
       case measure=>simp [RowKit.intOf];omega
     | false=>
      have hno:∀ x r,acc=x :: r→¬ (x.t=n∧cntE x m.c=true):=by
       rcases hBc with h | h
       ·cases h.1
       ·exact h.2
      have hofE:=ofS_else ck.out hno
      have HE:Hid (∀ w',Gr wc w'→Calls Tryz.prog 52 #[.agg l.toArray,.slice ra L rc,.int .i64 n] w' fun e w''=>∃ (ll:List Value) (B:Bool),e=.returned (.tuple #[.agg ll.toArray,.bool B])∧Gr w' w''∧∃ x:Ev,x.cells=ll∧((B=true∧evO m.c (bfR acc n) n=some x)∨(B=false∧evO m.c (bfR acc n) n=none))):=Lib.hid fun w' hg=>by
       have h1:=eevent_any m acc.reverse (.slice ra acc.length rc) n w' (hch2.gr hg) ((evs_own hI2.row).gr hg) (by simp;omega) (by rw [hln.out];omega) hn0 (by omega) (an_bnd hvcm.a) (an_bnd hvcm.b)
       unfold CM.val at h1
       rw [hml.out,hL.out,List.reverse_reverse] at h1
       refine h1.mono ?_
       rintro e w'' ⟨x,B,rfl,h2,h3⟩
       exact⟨x.cells,B,rfl,h2,x,rfl,h3⟩
      have lr:=ld_cel (P:=Tryz.prog) hlk hbx2.cel
      have hlb2:=hI2.lb
      have x0:=hlb2.lt
      have x4:=(hlb2.cel.2 3 _ rfl).1
      rw [hL.out] at x4
      obtain⟨k8,hk8⟩:∃ k8,8=k8:=⟨_,rfl⟩
      have aE8:∀ w,(isAgg 30).run Tryz.prog w=.ok true w:=Tryz.isAgg30
      have zE8:∀ w,(Go.sizeOf 30).run Tryz.prog w=.ok k8 w:=fun w=>by rw [← hk8];exact Tryz.sizeOf30 w
      have hk80:¬ k8=0:=by omega
      replace hk8:=Lib.hid hk8
      clear hBc hno hgX hch2 hlb2
      go_upto_region 20 with (go_at_call 52;(with_reducible refine (HE.out _ ?_).mono ?_);(· exact (by repeat (first | with_reducible exact Gr.refl _ | with_reducible assumption | refine Gr.setCell ?_ (by first | omega | (simp;done) | (simp;omega)) _ | refine Gr.alloc ?_ _ | refine Gr.drew ?_ | refine Gr.drewN ?_ _ | refine Gr.trans ?_ (by with_reducible assumption))));rintro e w5 ⟨ll,B2,rfl,hg5,x,hxl,hB2⟩;have hl8:Hid (ll.length=8):=Lib.hid (by rw [← hxl];rfl);have hl8k:ll.length=k8:=(hl8.out.trans hk8.out);have hone8:∀ v∈ll,v.oneCell'=true:=(by rw [← hxl];exact ev_one x);have st8:Sem.run Tryz.prog (storeCells ⟨w5.heap.size,0,none⟩ ll 0) (w5.alloc (.cells #[.int .i64 0,.int .i64 0,.int .i64 0,.string ⟨#[]⟩,.int .i64 0,.int .i64 0,.int .i64 0,.int .i64 0] 30))=.ok () (w5.alloc (.cells ll.toArray 30)):=st_new w5 _ _ ll (by rw [hl8.out];exact infoEvt1) (by rw [hl8.out];rfl) hone8)
      clear aE8 zE8 hk80 hl8k
      replace hl8:=hl8.out
      have hgB:Gr wc (w5.alloc (.cells ll.toArray 30)):=hg5.alloc _
      have hbE:=Blk.new w5 ll 30
      have hI5:=hI2.by hgB
      have hzX:w.heap.size<w5.heap.size:=Nat.lt_of_lt_of_le x0 hg5.size
      clear st8 hg5 hI2 x0 x4 lr hbx2 hgB HE
      generalize w5.alloc (.cells ll.toArray 30)=W6 at *
      obtain⟨X8,hX8⟩:∃ X8,w5.heap.size=X8:=⟨_,rfl⟩
      rw [hX8] at hbE hzX ⊢
      clear hX8
      cases B2 with
      | false=>
       have hnone:evO m.c (bfR acc n) n=none:=by
        rcases hB2 with h | h
        ·cases h.1
        ·exact h.2
       have hofN:ofR N [] 0=none:=by rw [hof.out,hofE,hnone];rfl
       have hlb4:=hI5.lb
       have heb4:=hI5.eb
       have hg5:=hI5.gr
       have y0:=hlb4.lt
       obtain⟨y1,u1⟩:=hlb4.cel.2 0 _ rfl
       obtain⟨y2,u2⟩:=hlb4.cel.2 1 _ rfl
       obtain⟨y3,u3⟩:=hlb4.cel.2 2 _ rfl
       obtain⟨y4,u4⟩:=hlb4.cel.2 3 _ rfl
       have z0:=heb4.lt
       obtain⟨z1,u5⟩:=heb4.cel.one
       replace hofN:=Lib.hid hofN
       clear hI5 hbE hof hofE hB2 hAb hnone
       go_wp2
       refine leaves_cons (f:=49) (args:=#[.pointer (some ⟨w.heap.size,0,none⟩),.pointer (some ⟨w.heap.size+1,0,none⟩)]) (by simp) (by simp [go_sem]) ?_
       refine (ofD_idle _ _ _).mono ?_
       rintro e u' w'' ⟨rfl,rfl,rfl⟩
       simp [Leaves,settle,results,Tryz.results20,go_sem,y1,y2,y3,y4,z1]
       refine⟨⟨⟨#[]⟩,0,false,[]⟩,.slice none 0 0,3,⟨rfl,rfl⟩,?_,⟨EvsR.nil _,by decide,fun e he=>(by cases he),by decide⟩,fun a n c e=>(by injection e;omega),.inr ⟨rfl,rfl,fun acc' hacc=>?_⟩⟩
       ·repeat (first | (with_reducible exact hg5) | (with_reducible refine Gr.setCell ?_ (by simp) _))
       ·rw [hofN.out] at hacc
        cases hacc
      | true=>
       have hsome:evO m.c (bfR acc n) n=some x:=by
        rcases hB2 with h | h
        ·exact h.2
        ·cases h.1
       have hof2:ofR N [] 0=ofR ((ts.drop (j+1)).map CM.c) (x :: acc) (n+ln):=by rw [hof.out,hofE,hsome];rfl
       have hAb2:Ab (x :: acc) (n+ln):=hAb.out.push hvcm hln.out hsome hn0
       have hal2:(x :: acc).length≤j+1:=by simp only [List.length_cons];omega
       have hg8:=(Gr.refl W6).alloc (.cells ll.toArray 30)
       have hI6:=hI5.by hg8
       have hrow6:=hI6.row
       have hge:=own_ge hI5.row
       have hlb5:=hI5.lb
       have v0:=hlb5.lt
       have v3:=(hlb5.cel.2 3 _ rfl).1
       rw [hL.out] at v3 hrow6
       have hrd:=Rd.new W6 ll.toArray 30 1 8 1 (by simpa using hl8)
       have hL64:L≤64:=by rw [← hL.out];omega
       have hWz:w3.heap.size≤(W6.alloc (.cells ll.toArray 30)).heap.size:=hI6.kp.sz
       obtain⟨ic,hic,hic0,hic1,hic2⟩:=info_parts infoEvz
       replace hof2:=Lib.hid hof2
       replace hAb2:=Lib.hid hAb2
       replace hxl:=Lib.hid hxl
       clear hof hofE hB2 hAb hsome hlb5 hI5
       go_upto_region 22 with fail
       go_wp2_with (first
        | (refine wpList_load_row rfl 30 (.tmp 18) rfl X8 rfl 30 ll.toArray (0,0) _ hbE Tryz.underlying30 rfl (by rw [List.size_toArray,hl8];exact infoEvt1) ?_)
        | (refine wpList_bs1 rfl 22 30 (.tmp 121) rfl 8 (by kernel_rfl) (by kernel_rfl) (by omega) (by omega) ll hl8 rfl ?_)
        | (at_builtin;go_loud (refine wpList_append_rd rfl (.tmp 120) (.tmp 122) 22 rfl w3.heap.size 30 ic (.agg #[.int .i64 0,.int .i64 0,.int .i64 0,.string ⟨#[]⟩,.int .i64 0,.int .i64 0,.int .i64 0,.int .i64 0]) 8 72 (by kernel_rfl) hic hic0 hic1 hic2 rfl (by decide) (.slice ra L rc) L (eflat acc.reverse) rfl hrow6 _ 1 ll rfl hrd hone8 ?_ ?_ ?_ ?_);(· unfold maxLen;omega);(· omega);(· exact hWz);intro v9 w9 hown9 hgrow9;obtain⟨p9,c9,rfl⟩:=own_shape hown9;have hge':∀ k,(Value.slice ra L rc).ownBlock=some k→w3.heap.size≤k:=(by intro k hk;exact own_ge hrow6 k hk);have hlb9:=hI6.lb.grown hgrow9 (fun e=>by have:=hge' _ e;omega);have x9:=hlb9.lt;obtain⟨x3,xf3⟩:=hlb9.cel.2 3 _ rfl))
       have hLs:=hL.out
       subst hLs
       have hown9':w9.ownsRow w3.heap.size 30 8 (.slice p9 (acc.length+1) c9) (acc.length+1) (eflat acc.reverse ++ x.cells):=by rw [hxl.out];exact hown9
       have hIp:=OfI.push hI6 hW2 x hown9' hgrow9
       replace hIp:=Lib.hid hIp
       go_roundw
       case rel=>exact⟨j+1,x :: acc,n+ln,_,by omega,by go_num,rfl,hIp.out,Lib.hid ⟨hAb2.out,hal2,hmt.out.symm,hof2.out⟩⟩
       case measure=>simp [RowKit.intOf];omega
  ·have g1:decide ((j:Int)<ts.length)=false:=decide_eq_false (by omega)
   obtain rfl:j=ts.length:=by omega
   have hof:ofR N [] 0=some acc:=by rw [hM.out.2.2.2,List.drop_length];rfl
   have hEv:ElR wr lv ⟨title,base,drop,acc.reverse⟩:=⟨evs_own hI.row,ht,fun e he=>(hM.out.1 e (List.mem_reverse.1 he)).2.2.2.2.2,by have:=hM.out.2.1;simp;omega⟩
   have hcap:=own_capE hI.row
   have HE:Hid (∀ w',Gr wr w'→Calls Tryz.prog 13 #[.agg #[.string title,.int .i64 base,.bool drop,lv]] w' fun e w''=>e=.returned (.bool (vEl ⟨title,base,drop,acc.reverse⟩))∧Gr w' w''):=Lib.hid fun w' hg=>evalid_any _ lv w' (hEv.gr hg)
   have hs1:=hI0.eb.lt
   have hne0:=own_ne hI.row w.heap.size (by omega)
   have hne1:=own_ne hI.row (w.heap.size+1) hs1
   obtain⟨ra,rl,rc,hlv⟩:=own_slice hI.row
   subst hlv
   replace hof:=Lib.hid hof
   replace hEv:=Lib.hid hEv
   replace hcap:=Lib.hid hcap
   have hlb:=hI.lb
   have heb:=hI.eb
   have hgr:=hI.gr
   clear hI hM hTK hN htr hI0 hj c1 htc htt hlt aE zE
   have x0:=hlb.lt
   have x1:=(hlb.cel.2 0 _ rfl).1
   have x2:=(hlb.cel.2 1 _ rfl).1
   have x3:=(hlb.cel.2 2 _ rfl).1
   have x4:=(hlb.cel.2 3 _ rfl).1
   obtain⟨B,hB⟩:∃ B,vEl ⟨title,base,drop,acc.reverse⟩=B:=⟨_,rfl⟩
   rw [hB] at HE
   replace hB:=Lib.hid hB
   cases B with
   | false=>
    go_upto_region 25 with (go_at_call 13;(with_reducible refine (HE.out _ ?_).mono ?_);(· exact (by repeat (first | with_reducible exact Gr.refl _ | with_reducible assumption | refine Gr.setCell ?_ (by first | omega | (simp;done) | (simp;omega)) _ | refine Gr.alloc ?_ _ | refine Gr.drew ?_ | refine Gr.drewN ?_ _ | refine Gr.trans ?_ (by with_reducible assumption))));rintro e w4 ⟨rfl,hg4⟩)
    have hlb4:=hlb.gr hg4
    have heb4:=heb.gr hg4
    have y0:=hlb4.lt
    obtain⟨y1,u1⟩:=hlb4.cel.2 0 _ rfl
    obtain⟨y2,u2⟩:=hlb4.cel.2 1 _ rfl
    obtain⟨y3,u3⟩:=hlb4.cel.2 2 _ rfl
    obtain⟨y4,u4⟩:=hlb4.cel.2 3 _ rfl
    have z0:=heb4.lt
    obtain⟨z1,u5⟩:=heb4.cel.one
    have hEv4:=Lib.hid (hEv.out.gr hg4)
    have hg5:=hgr.trans hg4
    clear x0 x1 x2 x3 x4
    go_wp2
    refine leaves_cons (f:=49) (args:=#[.pointer (some ⟨w.heap.size,0,none⟩),.pointer (some ⟨w.heap.size+1,0,none⟩)]) (by simp) (by simp [go_sem]) ?_
    refine (ofD_idle _ _ _).mono ?_
    rintro e u' w'' ⟨rfl,rfl,rfl⟩
    simp [Leaves,settle,results,Tryz.results20,go_sem,y1,y2,y3,y4,z1]
    refine⟨⟨⟨#[]⟩,0,false,[]⟩,.slice none 0 0,3,⟨rfl,rfl⟩,?_,⟨EvsR.nil _,by decide,fun e he=>(by cases he),by decide⟩,fun a n c e=>(by injection e;omega),.inr ⟨rfl,rfl,fun acc' hacc=>?_⟩⟩
    ·repeat (first | (with_reducible exact hg5) | (with_reducible refine Gr.setCell ?_ (by simp) _))
    ·rw [hof.out] at hacc
     injection hacc with hacc
     rw [← hacc]
     exact hB.out
   | true=>
    go_upto_region 26 with (go_at_call 13;(with_reducible refine (HE.out _ ?_).mono ?_);(· exact (by repeat (first | with_reducible exact Gr.refl _ | with_reducible assumption | refine Gr.setCell ?_ (by first | omega | (simp;done) | (simp;omega)) _ | refine Gr.alloc ?_ _ | refine Gr.drew ?_ | refine Gr.drewN ?_ _ | refine Gr.trans ?_ (by with_reducible assumption))));rintro e w4 ⟨rfl,hg4⟩)
    have hlb4:=hlb.gr hg4
    have heb4:=heb.gr hg4
    have y0:=hlb4.lt
    obtain⟨y1,u1⟩:=hlb4.cel.2 0 _ rfl
    obtain⟨y2,u2⟩:=hlb4.cel.2 1 _ rfl
    obtain⟨y3,u3⟩:=hlb4.cel.2 2 _ rfl
    obtain⟨y4,u4⟩:=hlb4.cel.2 3 _ rfl
    have z0:=heb4.lt
    obtain⟨z1,u5⟩:=heb4.cel.one
    have hEv4:=Lib.hid (hEv.out.gr hg4)
    have hg5:=hgr.trans hg4
    clear x0 x1 x2 x3 x4
    go_wp2
    refine leaves_cons (f:=49) (args:=#[.pointer (some ⟨w.heap.size,0,none⟩),.pointer (some ⟨w.heap.size+1,0,none⟩)]) (by simp) (by simp [go_sem]) ?_
    refine (ofD_idle _ _ _).mono ?_
    rintro e u' w'' ⟨rfl,rfl,rfl⟩
    simp [Leaves,settle,results,Tryz.results20,go_sem,y1,y2,y3,y4,z1]
    refine⟨⟨title,base,drop,acc.reverse⟩,.slice ra rl rc,0,⟨rfl,rfl⟩,?_,⟨?_,ht,hEv4.out.r,hEv4.out.n⟩,hcap.out,.inl ⟨rfl,acc,hof.out,rfl,hB.out⟩⟩
    ·repeat (first | (with_reducible exact hg5) | (with_reducible refine Gr.setCell ?_ (by simp) _))
    ·exact Rd.off (p:=⟨w.heap.size+1,0,none⟩) (Rd.off (p:=⟨w.heap.size,3,none⟩) (Rd.off (p:=⟨w.heap.size,2,none⟩) (Rd.off (p:=⟨w.heap.size,1,none⟩) (Rd.off (p:=⟨w.heap.size,0,none⟩) hEv4.out.evs hne0 _) hne0 _) hne0 _) hne0 _) hne1 _
theorem cutG_mem {l:List Cl} {c:Cl} (h:c∈cutG l):c∈l:=by
 unfold cutG at h
 split at h
 ·split at h
  ·exact List.dropLast_subset _ h
  ·exact h
 ·exact h
theorem cutG_len (l:List Cl):(cutG l).length≤l.length:=by
 unfold cutG
 split
 ·split
  ·rw [List.length_dropLast];omega
  ·exact Nat.le_refl _
 ·exact Nat.le_refl _
theorem cutG_tot {l:List Cl} (h:∀ c∈l,VL c):tot (cutG l)≤tot l:=by
 unfold cutG
 split
 ·rename_i c hc
  split
  ·obtain⟨r,hr⟩:=List.getLast?_eq_some_iff.1 hc
   subst hr
   rw [List.dropLast_concat,tot_append]
   have:0≤tot [c]:=tot_nonneg fun d hd=>h d (List.mem_append_right _ hd)
   omega
  ·exact Int.le_refl _
 ·exact Int.le_refl _
theorem Packed.pre:∀ {l:List Cl} {r:List Cl},Packed (l ++ r)→Packed l
 | [],_,_=>trivial
 | [c],_,_=>trivial
 | c :: d :: l,r,h=>⟨h.1,Packed.pre (l:=d :: l) (r:=r) h.2⟩
theorem Packed.two:∀ {l:List Cl} {c d:Cl} {r:List Cl},Packed (l ++ c :: d :: r)→cont c d=false
 | [],_,_,_,h=>h.1
 | [x],c,d,r,h=>Packed.two (l:=[]) (r:=r) h.2
 | x :: y :: l,c,d,r,h=>Packed.two (l:=y :: l) (r:=r) h.2
theorem cutG_packed {l:List Cl} (h:Packed l):Packed (cutG l):=by
 unfold cutG
 split
 ·rename_i c hc
  split
  ·obtain⟨r,hr⟩:=List.getLast?_eq_some_iff.1 hc
   subst hr
   rw [List.dropLast_concat]
   exact h.pre
  ·exact h
 ·exact h
theorem cutG_last {l:List Cl} (h:Packed l):∀ c,(cutG l).getLast?=some c→c.kind≠0:=by
 intro c hc hk
 unfold cutG at hc
 split at hc
 ·rename_i d hd
  split at hc
  ·rename_i hdk
   obtain⟨r,hr⟩:=List.getLast?_eq_some_iff.1 hd
   subst hr
   rw [List.dropLast_concat] at hc
   obtain⟨s,hs⟩:=List.getLast?_eq_some_iff.1 hc
   subst hs
   rw [List.append_assoc] at h
   have:=Packed.two (l:=s) (c:=c) (d:=d) (r:=[]) h
   unfold cont at this
   rw [decide_eq_true (by exact⟨hk,hdk⟩)] at this
   cases this
  ·rename_i hdk
   rw [hd] at hc
   injection hc with hc
   subst hc
   exact hdk hk
 ·rename_i hd
  rw [hd] at hc
  cases hc
theorem nmC_parts {l:List Cl} (h:vtB l=true):(∀ c∈nmC l,VC c)∧tot (nmC l)≤2147483647∧(nmC l).length≤64∧Packed (nmC l)∧∀ c,(nmC l).getLast?=some c→c.kind≠0:=by
 have hT:=(vtB_iff _).1 h
 have hv:=pk_valid hT.vc hT.tot
 unfold nmC
 rw [if_pos h]
 refine⟨fun c hc=>hv c (cutG_mem hc),?_,?_,cutG_packed (pk_packed l),cutG_last (pk_packed l)⟩
 ·have:=cutG_tot (l:=pk l) fun c hc=>(hv c hc).vl
  rw [pk_tot] at this
  have:=hT.tot
  omega
 ·have:=cutG_len (pk l)
  have:=pk_len l
  have:=hT.len
  omega
def OfP (C:List Cl) (title:ByteArray) (base:Int) (drop:Bool) (l:El) (E:Int):Prop:=
 (¬ (C19.okB base drop=true∧vtB C=true∧vLine title=true)∧E=1∧l=⟨⟨#[]⟩,0,false,[]⟩) ∨
 ((C19.okB base drop=true∧vtB C=true∧vLine title=true)∧E=0∧∃ acc,ofR (nmC C) [] 0=some acc∧l=⟨title,base,drop,acc.reverse⟩∧vEl l=true) ∨
 ((C19.okB base drop=true∧vtB C=true∧vLine title=true)∧E=3∧l=⟨⟨#[]⟩,0,false,[]⟩∧∀ acc,ofR (nmC C) [] 0=some acc→vEl ⟨title,base,drop,acc.reverse⟩=false)
theorem OfP.det {C:List Cl} {title:ByteArray} {base:Int} {drop:Bool} {l l':El} {E E':Int} (h:OfP C title base drop l E) (h':OfP C title base drop l' E'):E=E'∧l=l':=by
 rcases h with ⟨a1,a2,a3⟩ | ⟨a1,a2,acc,a3,a4,a5⟩ | ⟨a1,a2,a3,a4⟩
 ·rcases h' with ⟨b1,b2,b3⟩ | ⟨b1,b2,acc',b3,b4,b5⟩ | ⟨b1,b2,b3,b4⟩
  ·exact⟨by rw [a2,b2],by rw [a3,b3]⟩
  ·exact absurd b1 a1
  ·exact absurd b1 a1
 ·rcases h' with ⟨b1,b2,b3⟩ | ⟨b1,b2,acc',b3,b4,b5⟩ | ⟨b1,b2,b3,b4⟩
  ·exact absurd a1 b1
  ·rw [a3] at b3
   injection b3 with b3
   exact⟨by rw [a2,b2],by rw [a4,b4,b3]⟩
  ·have:=b4 acc a3
   rw [← a4,a5] at this
   cases this
 ·rcases h' with ⟨b1,b2,b3⟩ | ⟨b1,b2,acc',b3,b4,b5⟩ | ⟨b1,b2,b3,b4⟩
  ·exact absurd a1 b1
  ·have:=a4 acc' b3
   rw [← b4,b5] at this
   cases this
  ·exact⟨by rw [a2,b2],by rw [a3,b3]⟩
theorem eof_any (cs:List CM) (v:Value) (title:ByteArray) (base:Int) (drop:Bool) (w:World) (h:TrR w v cs) (hok:∀ c∈cs,ClOk c.c) (ht:title.size≤140737488355328) :
  Calls Tryz.prog 20 #[v,.string title,.int .i64 base,.bool drop] w fun e w'=>∃ (l:El) (lv:Value) (E:Int),e=.returned (.tuple #[l.val lv,.int .i64 E])∧Gr w w'∧ElR w' lv l∧(∀ a n c,lv=.slice a n c→n≤c)∧OfP (cs.map CM.c) title base drop l E:=by
 by_cases hg:C19.okB base drop=true∧vtB (cs.map CM.c)=true∧vLine title=true
 ·obtain⟨p1,p2,p3,_,_⟩:=nmC_parts hg.2.1
  refine (eof_yes 22 rfl cs v title base drop w h hok ht hg.1 hg.2.1 hg.2.2 p1 p2 p3).mono ?_
  rintro e w' ⟨l,lv,E,rfl,h1,h2,h3,h4⟩
  refine⟨l,lv,E,rfl,h1,h2,h3,?_⟩
  rcases h4 with ⟨rfl,h4⟩ | ⟨rfl,h4,h5⟩
  ·exact .inr (.inl ⟨hg,rfl,h4⟩)
  ·exact .inr (.inr ⟨hg,rfl,h4,h5⟩)
 ·refine (eof_no cs v title base drop w h hok ht hg).mono ?_
  rintro e w' ⟨rfl,h1⟩
  exact⟨⟨⟨#[]⟩,0,false,[]⟩,.slice none 0 0,1,rfl,h1,⟨EvsR.nil _,by decide,fun e he=>(by cases he),by decide⟩,fun a n c e=>(by injection e;omega),.inl ⟨hg,rfl,rfl⟩⟩
end Go.Proofs.YtgbiodnfpbhjiaaGreatDoor
