/-
  Contracts of reel and continues of package edl.
  Conditions: the clip's channels lie in memory; the numbers are small.
-/
import Derived.Test.YtgbiodnfpbhjiaaGreatDoorWalkUe
namespace Go.Proofs.YtgbiodnfpbhjiaaGreatDoor
open Go.RowKit Go.Lib
set_option linter.unusedSimpArgs false
set_option linter.unusedVariables false
set_option maxRecDepth 20000 in
set_option maxHeartbeats 2000000 in
theorem ereel_core (k7:Nat) (hk7:7=k7) (s:Sr) (w:World):Calls Tryz.prog 95 #[s.val] w fun e w'=>e=.returned (.tuple #[.string (relN s),.int .i64 (relI s),.bool (relB s)])∧Gr w w':=by
 have aE7:∀ w,(isAgg 79).run Tryz.prog w=.ok true w:=Tryz.isAgg79
 have zE7:∀ w,(Go.sizeOf 79).run Tryz.prog w=.ok k7 w:=fun w=>by rw [← hk7];exact Tryz.sizeOf79 w
 have hk0:¬ k7=0:=by omega
 have hbx:Cel (w.alloc (.cells s.cells.toArray 79)) w.heap.size s.cells:=Cel.new w s.cells.toArray 79
 have hgA:Gr w (w.alloc (.cells s.cells.toArray 79)):=(Gr.refl w).alloc _
 have l0:s.cells[0]?=some (.int .i64 s.k):=rfl
 have l1:s.cells[1]?=some (.string s.nm):=rfl
 have l2:s.cells[2]?=some (.int .i64 s.an):=rfl
 have hlk:s.cells.length=k7:=by rw [← hk7];rfl
 rw [show s.val=.agg s.cells.toArray from rfl]
 have hS:Hid (∀ w',Calls Tryz.prog 85 #[.string s.nm,.int .i64 s.an] w' fun e w''=>e=.returned (.agg (plS s.nm s.an).cells.toArray)∧Gr w' w''):=Lib.hid fun w'=>esource_any s.nm s.an w'
 have hq:∀ w,(binOp .eql 79 (.agg s.cells.toArray) (.agg (plS s.nm s.an).cells.toArray)).run Tryz.prog w=.ok (.bool (decide (s=plS s.nm s.an))) w:=fun w=>eq_src s (plS s.nm s.an) w
 have x:=hbx.lt
 have x0:=(hbx.2 0 _ l0).1
 replace hk7:=Lib.hid hk7
 by_cases c0:s.k=0
 ·have q0:(s.k == 0)=true:=by simp [c0]
  have e1:relN s=⟨#[]⟩:=by unfold relN;rw [if_pos c0]
  have e2:relI s=0:=by unfold relI;rw [if_pos c0]
  have e3:relB s=true:=by unfold relB;rw [decide_eq_true c0];rfl
  rw [e1,e2,e3]
  replace c0:=Lib.hid c0
  go_enter Tryz.func95,Tryz.ntmps95
  go_wp2
  simp [bodyPost,results,Tryz.results95,go_sem]
  exact hgA
 ·have q0:(s.k == 0)=false:=by simp [c0]
  have e1:relN s=s.nm:=by unfold relN;rw [if_neg c0]
  have e2:relI s=s.an:=by unfold relI;rw [if_neg c0]
  have e3:relB s=decide (s=plS s.nm s.an):=by unfold relB;rw [decide_eq_false c0];rfl
  rw [e1,e2,e3]
  clear e1 e2 e3
  obtain⟨R,hR⟩:∃ R,decide (s=plS s.nm s.an)=R:=⟨_,rfl⟩
  rw [hR] at hq ⊢
  replace c0:=Lib.hid c0
  clear hR
  generalize (plS s.nm s.an).cells=lp at *
  generalize s.cells=l at *
  generalize s.nm=nm at *
  generalize s.an=an at *
  generalize s.k=kk at *
  go_enter Tryz.func95,Tryz.ntmps95
  go_upto_region 3 with fail
  generalize w.alloc (.cells l.toArray 79)=W at *
  have y1:=(hbx.2 1 _ l1).1
  have y2:=(hbx.2 2 _ l2).1
  have la:∀ x:GW W,Sem.run Tryz.prog (loadCellsFrom ⟨w.heap.size,0,none⟩ 0 k7 #[]) x.w=.ok l.toArray x.w:=fun x=>ld_cel hlk (hbx.gr x.h)
  refine wp_region_gr (by kernel_rfl) (by kernel_rfl) (fun hq1 hq2=>?_)
  repeat (first | go_big_quiet_skip | (go_big_quiet_want;go_big_quiet_op;first | go_big_quiet_on | (apply Exists.intro;refine⟨fun _=>?_,?_⟩;(· ((go_at_call 85;exact gr_call (hS.out _))));go_big_quiet_on)))
  refine wpQuiet_nil ?_
  clear hq1 hq2
  rintro w1 ⟨⟨_,hg1⟩,rfl⟩
  obtain⟨hc1,hf1⟩:=hg1.cells
  have hz1:=hg1.size
  (try simp at hz1);(try have hl1_0_0:w.heap.size<w1.heap.size:=by omega);(try have hm1_0_0:w.heap.size≤w1.heap.size:=by omega);(try have hl1_0_1:w.heap.size+1<w1.heap.size:=by omega);(try have hl1_0_2:w.heap.size+2<w1.heap.size:=by omega)
  have hb1:=hbx.gr hg1
  clear x x0 y1 y2 la
  have x:=hb1.lt
  have y1:=(hb1.2 1 _ l1).1
  have y2:=(hb1.2 2 _ l2).1
  go_upto_region 4 with fail
  refine wp_region_gr (by kernel_rfl) (by kernel_rfl) (fun hq1 hq2=>?_)
  repeat (first | go_big_quiet_skip | (go_big_quiet_want;go_big_quiet_op;first | go_big_quiet_on | (apply Exists.intro;refine⟨fun _=>?_,?_⟩;(· (fail));go_big_quiet_on)))
  refine wpQuiet_nil ?_
  clear hq1 hq2
  rintro w2 ⟨⟨_,hg2⟩,rfl⟩
  obtain⟨hc2,hf2⟩:=hg2.cells
  have hz2:=hg2.size
  (try simp at hz2);(try have hl2_0_0:w.heap.size<w2.heap.size:=by omega);(try have hm2_0_0:w.heap.size≤w2.heap.size:=by omega);(try have hl2_0_1:w.heap.size+1<w2.heap.size:=by omega);(try have hl2_0_2:w.heap.size+2<w2.heap.size:=by omega);(try have hl2_1_0:w1.heap.size<w2.heap.size:=by omega);(try have hm2_1_0:w1.heap.size≤w2.heap.size:=by omega);(try have hl2_1_1:w1.heap.size+1<w2.heap.size:=by omega);(try have hl2_1_2:w1.heap.size+2<w2.heap.size:=by omega)
  go_wp2
  simp [bodyPost,results,Tryz.results95,go_sem]
  exact (hgA.trans hg1).trans hg2
theorem ereel_any (s:Sr) (w:World):Calls Tryz.prog 95 #[s.val] w fun e w'=>e=.returned (.tuple #[.string (relN s),.int .i64 (relI s),.bool (relB s)])∧Gr w w':=ereel_core 7 rfl s w
theorem box_a {P:Program} {w:World} {g k:Nat} {m:CM} (hk:7=k) (h:Cel w g m.cells):Sem.run P (loadCellsFrom ⟨g,2,none⟩ 0 k #[]) w=.ok m.c.a.cells.toArray w:=(box_src hk h).1
set_option maxRecDepth 20000 in
set_option maxHeartbeats 4000000 in
theorem econt_core (k7:Nat) (hk7:7=k7) (x:Ev) (m:CM) (w:World) (hch:ChR w m) (hft:-9223372036854775808≤x.t - x.f∧x.t - x.f≤9223372036854775807) :
  Calls Tryz.prog 51 #[x.val,m.val] w fun e w'=>e=.returned (.bool (cntE x m.c))∧Gr w w':=by
 have aE7:∀ w,(isAgg 79).run Tryz.prog w=.ok true w:=Tryz.isAgg79
 have zE7:∀ w,(Go.sizeOf 79).run Tryz.prog w=.ok k7 w:=fun w=>by rw [← hk7];exact Tryz.sizeOf79 w
 have hk0:¬ k7=0:=by omega
 have hcn:cntE x m.c=((x.k != 0) && ((x.t - x.f == x.fr) && ((m.c.kind == 1) && (decide (m.c.a=plS x.reel x.o) && ((m.c.gain == 0) && ((m.c.ch.length:Int) == 0)))))):=by
  have h1:((m.c.ch.length:Int) == 0)=decide (m.c.ch=[]):=by
   by_cases h:m.c.ch=[]
   ·rw [decide_eq_true h,h];rfl
   ·rw [decide_eq_false h]
    refine beq_eq_false_iff_ne.2 fun e=>h (List.eq_nil_of_length_eq_zero (by omega))
  rw [h1]
  unfold cntE
  by_cases a1:x.k=0 <;> by_cases a2:x.t - x.f=x.fr <;> by_cases a3:m.c.kind=1 <;> by_cases a4:m.c.a=plS x.reel x.o <;> by_cases a5:m.c.gain=0 <;> by_cases a6:m.c.ch=[] <;> simp [a1,a2,a3,a4,a5,a6]
 rw [hcn]
 obtain⟨a1,cap1,hcv⟩:=hch.slice
 obtain⟨W,hW⟩:∃ W,(w.alloc (.cells x.cells.toArray 30)).alloc (.cells m.cells.toArray 81)=W:=⟨_,rfl⟩
 have hgA:Gr w W:=by rw [← hW];exact ((Gr.refl w).alloc _).alloc _
 have hbe:Cel W w.heap.size x.cells:=by rw [← hW];exact (Cel.new w x.cells.toArray 30).alloc _
 have hbm:Cel W (w.heap.size+1) m.cells:=by
  rw [← hW]
  have:=Cel.new (w.alloc (.cells x.cells.toArray 30)) m.cells.toArray 81
  simpa using this
 have hS:Hid (∀ w',Calls Tryz.prog 85 #[.string x.reel,.int .i64 x.o] w' fun e w''=>e=.returned (.agg (plS x.reel x.o).cells.toArray)∧Gr w' w''):=Lib.hid fun w'=>esource_any x.reel x.o w'
 have hq:∀ w,(binOp .eql 79 (.agg m.c.a.cells.toArray) (.agg (plS x.reel x.o).cells.toArray)).run Tryz.prog w=.ok (.bool (decide (m.c.a=plS x.reel x.o))) w:=fun w=>eq_src m.c.a (plS x.reel x.o) w
 have la:∀ y:GW W,Sem.run Tryz.prog (loadCellsFrom ⟨w.heap.size+1,2,none⟩ 0 k7 #[]) y.w=.ok m.c.a.cells.toArray y.w:=fun y=>box_a hk7 (hbm.gr y.h)
 have y:=hbe.lt
 have y0:=(hbe.2 0 _ rfl).1
 have y2:=(hbe.2 2 _ rfl).1
 have y3:=(hbe.2 3 _ rfl).1
 have y5:=(hbe.2 5 _ rfl).1
 have y6:=(hbe.2 6 _ rfl).1
 have y7:=(hbe.2 7 _ rfl).1
 have z:=hbm.lt
 have z1:=(hbm.2 1 _ rfl).1
 have z20:=(hbm.2 20 _ rfl).1
 have z21:W.cell? ⟨w.heap.size+1,21,none⟩=some (.slice a1 m.c.ch.length cap1):=by rw [← hcv];exact (hbm.2 21 _ rfl).1
 replace hk7:=Lib.hid hk7
 rw [show x.val=.agg x.cells.toArray from rfl]
 unfold CM.val
 clear hcn hcv hbe hbm hch
 replace hW:=Lib.hid hW
 generalize x.cells=l1 at *
 generalize m.cells=l2 at *
 generalize m.c.a.cells=la1 at *
 generalize (plS x.reel x.o).cells=lp at *
 generalize decide (m.c.a=plS x.reel x.o)=Ra at *
 generalize m.c.ch.length=n at *
 generalize m.c.kind=km at *
 generalize m.c.gain=gn at *
 generalize x.reel=rl at *
 generalize x.k=xk at *
 generalize x.o=xo at *
 generalize x.f=xf at *
 generalize x.t=xt at *
 generalize x.fr=xr at *
 obtain⟨d,hd⟩:∃ d,xt - xf=d:=⟨_,rfl⟩
 rw [hd] at hft ⊢
 generalize hE1:(xk != 0)=E1 at *
 generalize hE2:(d == xr)=E2 at *
 generalize hE3:(km == 1)=E3 at *
 generalize hE5:(gn == 0)=E5 at *
 generalize hE6:((n:Int) == 0)=E6 at *
 have hE6':(n == 0)=E6:=by
  rw [← hE6]
  by_cases h:n=0
  ·subst h;rfl
  ·rw [beq_eq_false_iff_ne.2 h,beq_eq_false_iff_ne.2 (show ¬ (n:Int)=0 by omega)]
 go_enter Tryz.func51,Tryz.ntmps51
 go_upto_region 1 with fail
 rw [hW.out]
 cases E1
 ·skip
  refine wp_region_gr (by kernel_rfl) (by kernel_rfl) (fun hq1 hq2=>?_)
  repeat (first | go_big_quiet_skip | (go_big_quiet_want;go_big_quiet_op;first | go_big_quiet_on | (apply Exists.intro;refine⟨fun _=>?_,?_⟩;(· (fail));go_big_quiet_on)))
  refine wpQuiet_nil ?_
  clear hq1 hq2
  rintro w1 ⟨⟨_,hg1⟩,rfl⟩
  obtain⟨hc1,hf1⟩:=hg1.cells
  have hz1:=hg1.size
  (try simp at hz1);(try have hl1_0_0:w.heap.size<w1.heap.size:=by omega);(try have hm1_0_0:w.heap.size≤w1.heap.size:=by omega);(try have hl1_0_1:w.heap.size+1<w1.heap.size:=by omega);(try have hl1_0_2:w.heap.size+2<w1.heap.size:=by omega)
  go_wp2
  go_ret
  exact⟨rfl,hgA.trans hg1⟩
 cases E2
 ·skip
  refine wp_region_gr (by kernel_rfl) (by kernel_rfl) (fun hq1 hq2=>?_)
  repeat (first | go_big_quiet_skip | (go_big_quiet_want;go_big_quiet_op;first | go_big_quiet_on | (apply Exists.intro;refine⟨fun _=>?_,?_⟩;(· (fail));go_big_quiet_on)))
  refine wpQuiet_nil ?_
  clear hq1 hq2
  rintro w1 ⟨⟨_,hg1⟩,rfl⟩
  obtain⟨hc1,hf1⟩:=hg1.cells
  have hz1:=hg1.size
  (try simp at hz1);(try have hl1_0_0:w.heap.size<w1.heap.size:=by omega);(try have hm1_0_0:w.heap.size≤w1.heap.size:=by omega);(try have hl1_0_1:w.heap.size+1<w1.heap.size:=by omega);(try have hl1_0_2:w.heap.size+2<w1.heap.size:=by omega)
  go_wp2
  go_ret
  exact⟨rfl,hgA.trans hg1⟩
 cases E3
 ·skip
  refine wp_region_gr (by kernel_rfl) (by kernel_rfl) (fun hq1 hq2=>?_)
  repeat (first | go_big_quiet_skip | (go_big_quiet_want;go_big_quiet_op;first | go_big_quiet_on | (apply Exists.intro;refine⟨fun _=>?_,?_⟩;(· (fail));go_big_quiet_on)))
  refine wpQuiet_nil ?_
  clear hq1 hq2
  rintro w1 ⟨⟨_,hg1⟩,rfl⟩
  obtain⟨hc1,hf1⟩:=hg1.cells
  have hz1:=hg1.size
  (try simp at hz1);(try have hl1_0_0:w.heap.size<w1.heap.size:=by omega);(try have hm1_0_0:w.heap.size≤w1.heap.size:=by omega);(try have hl1_0_1:w.heap.size+1<w1.heap.size:=by omega);(try have hl1_0_2:w.heap.size+2<w1.heap.size:=by omega)
  go_wp2
  go_ret
  exact⟨rfl,hgA.trans hg1⟩
 cases Ra
 ·skip
  refine wp_region_gr (by kernel_rfl) (by kernel_rfl) (fun hq1 hq2=>?_)
  repeat (first | go_big_quiet_skip | (go_big_quiet_want;go_big_quiet_op;first | go_big_quiet_on | (apply Exists.intro;refine⟨fun _=>?_,?_⟩;(· ((go_at_call 85;exact gr_call (hS.out _))));go_big_quiet_on)))
  refine wpQuiet_nil ?_
  clear hq1 hq2
  rintro w1 ⟨⟨_,hg1⟩,rfl⟩
  obtain⟨hc1,hf1⟩:=hg1.cells
  have hz1:=hg1.size
  (try simp at hz1);(try have hl1_0_0:w.heap.size<w1.heap.size:=by omega);(try have hm1_0_0:w.heap.size≤w1.heap.size:=by omega);(try have hl1_0_1:w.heap.size+1<w1.heap.size:=by omega);(try have hl1_0_2:w.heap.size+2<w1.heap.size:=by omega)
  go_wp2
  go_ret
  exact⟨rfl,hgA.trans hg1⟩
 cases E5
 ·skip
  refine wp_region_gr (by kernel_rfl) (by kernel_rfl) (fun hq1 hq2=>?_)
  repeat (first | go_big_quiet_skip | (go_big_quiet_want;go_big_quiet_op;first | go_big_quiet_on | (apply Exists.intro;refine⟨fun _=>?_,?_⟩;(· ((go_at_call 85;exact gr_call (hS.out _))));go_big_quiet_on)))
  refine wpQuiet_nil ?_
  clear hq1 hq2
  rintro w1 ⟨⟨_,hg1⟩,rfl⟩
  obtain⟨hc1,hf1⟩:=hg1.cells
  have hz1:=hg1.size
  (try simp at hz1);(try have hl1_0_0:w.heap.size<w1.heap.size:=by omega);(try have hm1_0_0:w.heap.size≤w1.heap.size:=by omega);(try have hl1_0_1:w.heap.size+1<w1.heap.size:=by omega);(try have hl1_0_2:w.heap.size+2<w1.heap.size:=by omega)
  go_wp2
  go_ret
  exact⟨rfl,hgA.trans hg1⟩
 ·skip
  refine wp_region_gr (by kernel_rfl) (by kernel_rfl) (fun hq1 hq2=>?_)
  repeat (first | go_big_quiet_skip | (go_big_quiet_want;go_big_quiet_op;first | go_big_quiet_on | (apply Exists.intro;refine⟨fun _=>?_,?_⟩;(· ((go_at_call 85;exact gr_call (hS.out _))));go_big_quiet_on)))
  refine wpQuiet_nil ?_
  clear hq1 hq2
  rintro w1 ⟨⟨_,hg1⟩,rfl⟩
  obtain⟨hc1,hf1⟩:=hg1.cells
  have hz1:=hg1.size
  (try simp at hz1);(try have hl1_0_0:w.heap.size<w1.heap.size:=by omega);(try have hm1_0_0:w.heap.size≤w1.heap.size:=by omega);(try have hl1_0_1:w.heap.size+1<w1.heap.size:=by omega);(try have hl1_0_2:w.heap.size+2<w1.heap.size:=by omega)
  go_wp2
  go_ret
  exact⟨rfl,hgA.trans hg1⟩
theorem econt_any (x:Ev) (m:CM) (w:World) (hch:ChR w m) (hft:-9223372036854775808≤x.t - x.f∧x.t - x.f≤9223372036854775807) :
  Calls Tryz.prog 51 #[x.val,m.val] w fun e w'=>e=.returned (.bool (cntE x m.c))∧Gr w w':=econt_core 7 rfl x m w hch hft
end Go.Proofs.YtgbiodnfpbhjiaaGreatDoor
