/-
  Contracts of package timeline and edl at the tracks that the law's sanity check asks of: without clips, and with one clip of kind Key.
  Conditions: the track lies in memory.
-/
import Derived.Test.YtnginfangeikpaaGreatDoorWalkTd
import Derived.Test.YtnginfangeikpaaGreatDoorWalkTm
import Derived.Test.YtnginfangeikpaaGreatDoorWalkEg
import Derived.Deep.DeepCutAuto
import Derived.Test.YtnginfangeikpaaGreatDoorWalkFx
namespace Go.Proofs.YtnginfangeikpaaGreatDoor
open Go.RowKit Go.Lib
set_option linter.unusedSimpArgs false
set_option linter.unusedVariables false
def keyC:Cl:=⟨1,4,blkS,blkS,0,0,0,noTx,0,[]⟩
theorem keyC_ok:ClOk keyC:=⟨⟨by decide,by decide⟩,⟨by decide,by decide⟩,⟨⟨by decide,by decide⟩,by decide,⟨by decide,by decide⟩,⟨by decide,by decide⟩,⟨by decide,by decide⟩,⟨by decide,by decide⟩⟩,⟨⟨by decide,by decide⟩,by decide,⟨by decide,by decide⟩,⟨by decide,by decide⟩,⟨by decide,by decide⟩,⟨by decide,by decide⟩⟩,⟨by decide,by decide⟩,⟨by decide,by decide⟩,⟨by decide,by decide⟩,by decide,⟨by decide,by decide⟩,by decide⟩
def Key01 (cs:List CM):Prop:=cs=[]∨∃ m:CM,cs=[m]∧m.c=keyC
theorem vtrackE_any (v:Value) (cs:List CM) (w:World) (hk:Key01 cs) (h:TrR w v cs):Calls Tryz.prog 34 #[v] w fun e w'=>e=.returned (.bool true)∧Gr w w':=by
 have:=vtrack_core 22 rfl (fun _=>true) cs v w h (fun c hc _=>by
  rcases hk with rfl | ⟨m,rfl,hm⟩
  ·cases hc
  ·rw [List.mem_singleton.1 hc,hm];exact⟨by decide,by decide⟩) (Lib.hid fun c hc w' hg=>by
  rcases hk with rfl | ⟨m,rfl,hm⟩
  ·cases hc
  ·have h1:=vclip_any c w' (by rw [List.mem_singleton.1 hc,hm];exact keyC_ok) ((h.ch c hc).gr hg)
   rw [List.mem_singleton.1 hc,hm] at h1
   rw [List.mem_singleton.1 hc]
   rwa [show vcB keyC=true by decide +kernel] at h1)
 rcases hk with rfl | ⟨m,rfl,hm⟩
 ·exact this
 ·rw [show (decide ([m].length≤64) && ([m].all (fun _=>true) && decide (totM [m]≤2147483647)))=true by simp [totM,hm,keyC]] at this
  exact this
theorem packE_any (v:Value) (cs:List CM) (w:World) (hk:Key01 cs) (h:TrR w v cs):Calls Tryz.prog 36 #[v] w fun e w'=>∃ v' ts,e=.returned v'∧Gr w w'∧TrO w.heap.size w' v' ts∧ts.map CM.c=cs.map CM.c∧ts.length≤cs.length:=by
 have:=pack_core 22 rfl cs v w h (by rcases hk with rfl | ⟨m,rfl,hm⟩ <;> simp) (fun c hc=>by
  rcases hk with rfl | ⟨m,rfl,hm⟩
  ·cases hc
  ·rw [List.mem_singleton.1 hc,hm];exact⟨by decide,by decide⟩) (Lib.hid fun i h0 hi=>by
  rcases hk with rfl | ⟨m,rfl,hm⟩
  ·simp at hi
  ·simp at hi;omega) (Lib.hid fun c hc w' hg=>copied_core 22 rfl c w' ((h.ch c hc).gr hg) (by
  rcases hk with rfl | ⟨m,rfl,hm⟩
  ·cases hc
  ·rw [List.mem_singleton.1 hc,hm];decide))
 refine this.mono fun e w' ⟨v',ts,h1,h2,h3,h4,h5⟩=>⟨v',ts,h1,h2,h3,?_,h5⟩
 rw [h4]
 rcases hk with rfl | ⟨m,rfl,hm⟩ <;> rfl
theorem normE_any (v:Value) (cs:List CM) (w:World) (hk:Key01 cs) (h:TrR w v cs):Calls Tryz.prog 17 #[v] w fun e w'=>∃ v' ts,e=.returned v'∧Gr w w'∧TrR w' v' ts∧ts.map CM.c=cs.map CM.c:=by
 have H1:=pack2_core v w true (fun ts=>ts.map CM.c=cs.map CM.c∧ts.length≤cs.length) (Lib.hid fun w' hg=>vtrackE_any v cs w' hk (h.gr hg)) (Lib.hid fun _ w' hg=>packE_any v cs w' hk (h.gr hg))
 have H2:=normal_core v w (fun ts=>ts.map CM.c=cs.map CM.c∧ts.length≤cs.length) (Lib.hid (H1.mono fun e w' ⟨v',ts,h1,h2,h3,h4⟩=>⟨v',ts,h1,h2,h3,by
  rcases h4 with ⟨h5,_⟩ | ⟨_,h5⟩
  ·cases h5
  ·exact h5⟩)) (Lib.hid fun ts h=>by
  rcases hk with rfl | ⟨m,rfl,hm⟩
  ·have:=h.2;simp at this;simp [this]
  ·have:=h.2;simp at this;omega)
 refine H2.mono fun e w' ⟨v',ts,ts',h1,h2,h3,h4,h5,_⟩=>⟨v',ts',h1,h2,h3,?_⟩
 rw [h5,h4.1]
 rcases hk with rfl | ⟨m,rfl,hm⟩
 ·rfl
 ·simp [cutG,hm,keyC]
abbrev evZ:Value:=.agg #[.int .i64 0,.int .i64 0,.int .i64 0,.string ⟨#[]⟩,.int .i64 0,.int .i64 0,.int .i64 0,.int .i64 0]
set_option maxRecDepth 20000 in
set_option maxHeartbeats 4000000 in
theorem eventOfK (a:Option Addr) (cap:Nat) (w:World):Calls Tryz.prog 53 #[.agg #[.int .i64 1,.int .i64 4,.int .i64 0,.string ⟨#[]⟩,.int .i64 0,.int .i64 0,.int .i64 0,.int .i64 0,.bool false,.int .i64 0,.string ⟨#[]⟩,.int .i64 0,.int .i64 0,.int .i64 0,.int .i64 0,.bool false,.int .i64 0,.int .i64 0,.int .i64 0,.string ⟨#[]⟩,.int .i64 0,.slice a 0 cap],.slice none 0 0,.int .i64 0] w fun e w'=>e=.returned (.tuple #[evZ,.bool false])∧Gr w w':=by
 go_enter Tryz.func53,Tryz.ntmps53
 go_wp2
 simp [bodyPost,results,Tryz.results53,go_sem]
 exact (by repeat (first | with_reducible exact Gr.refl _ | with_reducible assumption | refine Gr.setCell ?_ (by first | omega | (simp;done) | (simp;omega)) _ | refine Gr.alloc ?_ _ | refine Gr.drew ?_ | refine Gr.drewN ?_ _ | refine Gr.trans ?_ (by with_reducible assumption)))
def awL:El:=⟨⟨#[65]⟩,25,false,[]⟩
set_option maxRecDepth 20000 in
set_option maxHeartbeats 4000000 in
theorem etrack0 (w:World):Calls Tryz.prog 5 #[.agg #[.string ⟨#[65]⟩,.int .i64 25,.bool false,.slice none 0 0]] w fun e w'=>∃ a c,e=.returned (.tuple #[.slice a 0 c,.int .i64 0])∧Gr w w':=by
 have hmf:=hmf_any Tryz.prog
 have HV:Hid (∀ w',Calls Tryz.prog 14 #[.agg #[.string ⟨#[65]⟩,.int .i64 25,.bool false,.slice none 0 0]] w' fun e w''=>e=.returned (.bool true)∧Gr w' w''):=Lib.hid fun w'=>by
  have:=evalid_any awL (.slice none 0 0) w' ⟨EvsR.nil w',by decide +kernel,fun e he=>(by cases he),by decide⟩
  rwa [show vEl awL=true by decide +kernel] at this
 have HN:Hid (∀ w',Calls Tryz.prog 17 #[.slice none 0 0] w' fun e w''=>∃ a c,e=.returned (.slice a 0 c)∧Gr w' w''):=Lib.hid fun w'=>(normE_any (.slice none 0 0) [] w' (.inl rfl) (TrR.nil w')).mono fun e w'' ⟨v',ts,h1,h2,h3,h4⟩=>by
  have h5:ts=[]:=by simpa using h4
  subst h5
  obtain⟨a,c,rfl,_⟩:=h3.shape
  exact⟨a,c,h1,h2⟩
 have fin:∀ w1:World,Gr (((w.alloc (.cells #[.string ⟨#[65]⟩,.int .i64 25,.bool false,.slice none 0 0] 25)).alloc (.cells #[.slice none 0 0] 28)).alloc (.cells #[.int .i64 0] 29)) w1→Gr w w1∧Cel w1 w.heap.size [.string ⟨#[65]⟩,.int .i64 25,.bool false,.slice none 0 0]∧Cel w1 (w.heap.size+1) [.slice none 0 0]∧Cel w1 (w.heap.size+2) [.int .i64 0]:=by
  intro w1 hg1
  have k0:=((Cel.new w #[.string ⟨#[65]⟩,.int .i64 25,.bool false,.slice none 0 0] 25).alloc (.cells #[.slice none 0 0] 28)).alloc (.cells #[.int .i64 0] 29) |>.gr hg1
  have k1:=(Cel.new (w.alloc (.cells #[.string ⟨#[65]⟩,.int .i64 25,.bool false,.slice none 0 0] 25)) #[.slice none 0 0] 28).alloc (.cells #[.int .i64 0] 29) |>.gr hg1
  have k2:=(Cel.new ((w.alloc (.cells #[.string ⟨#[65]⟩,.int .i64 25,.bool false,.slice none 0 0] 25)).alloc (.cells #[.slice none 0 0] 28)) #[.int .i64 0] 29).gr hg1
  simp at k0 k1 k2
  exact⟨((((Gr.refl w).alloc _).alloc _).alloc _).trans hg1,k0,k1,k2⟩
 have fin:=Lib.hid fin
 go_enter_defers Tryz.func5,Tryz.ntmps5
 go_wp2_with (go_at_call 14;(with_reducible refine (HV.out _).mono ?_);rintro e w1 ⟨rfl,hg1⟩;obtain⟨hgw,k0,k1,k2⟩:=fin.out _ hg1;have a0:=k0.lt;have a1:=(k0.2 3 _ rfl).1)
 clear hg1 fin
 go_loopw [4,17] (fun n i wr=>n=.int .i64 0∧i=.int .i64 0∧Gr w1 wr) (fun _ i _=>0)
 case atStart=>exact⟨rfl,rfl,Gr.refl _⟩
 case round=>
  obtain⟨rfl,rfl,hg⟩:=hrel
  have x1:=k1.gr hg
  obtain⟨b0,b1⟩:=x1.one
  have b2:=x1.lt
  go_wp2_with (go_at_call 17;(with_reducible refine (HN.out _).mono ?_);rintro e w2 ⟨a,c,rfl,hg2⟩;have y1:=x1.gr hg2;have y2:=(k2.gr hg).gr hg2;obtain⟨u1,u2⟩:=y1.one;have u0:=y1.lt;obtain⟨u3,u4⟩:=y2.one;have u5:=y2.lt)
  have z1:=(y1.set (k:=0) (by simp) (.slice a 0 c)).other (p:=⟨w.heap.size+1+1,0,none⟩) (by simp) (.int .i64 0)
  have z2:=(y2.other (p:=⟨w.heap.size+1,0,none⟩) (by simp) (.slice a 0 c)).set (k:=0) (by simp) (.int .i64 0)
  simp only [zZ] at z1 z2
  have hgz:Gr w ((w2.setCell ⟨w.heap.size+1,0,none⟩ (.slice a 0 c)).setCell ⟨w.heap.size+1+1,0,none⟩ (.int .i64 0)):=(((hgw.trans hg).trans hg2).setCell (by simp) _).setCell (by simp;omega) _
  obtain⟨v1,v2⟩:=z1.one
  obtain⟨v3,v4⟩:=z2.one
  generalize (w2.setCell ⟨w.heap.size+1,0,none⟩ (.slice a 0 c)).setCell ⟨w.heap.size+1+1,0,none⟩ (.int .i64 0)=Z at *
  refine leaves_cons (f:=13) (args:=#[.pointer (some ⟨w.heap.size+1,0,none⟩),.pointer (some ⟨w.heap.size+1+1,0,none⟩)]) (by simp) (by simp [go_sem]) ?_
  refine (trackD_idle _ _ _).mono ?_
  rintro e u' w'' ⟨rfl,rfl,rfl⟩
  simp [Leaves,settle,results,Tryz.results5,go_sem,v1,v3]
  exact hgz
theorem key_cells {m:CM} {w:World} (hm:m.c=keyC) (h:ChR w m):∃ x y,m.cells=[.int .i64 1,.int .i64 4,.int .i64 0,.string ⟨#[]⟩,.int .i64 0,.int .i64 0,.int .i64 0,.int .i64 0,.bool false,.int .i64 0,.string ⟨#[]⟩,.int .i64 0,.int .i64 0,.int .i64 0,.int .i64 0,.bool false,.int .i64 0,.int .i64 0,.int .i64 0,.string ⟨#[]⟩,.int .i64 0,.slice x 0 y]:=by
 obtain⟨a,cap,hv⟩:=h.slice
 obtain⟨c,cv⟩:=m
 simp only at hm hv
 subst hm
 subst hv
 exact⟨a,cap,rfl⟩
set_option maxRecDepth 20000 in
set_option maxHeartbeats 8000000 in
theorem ofK (v:Value) (m:CM) (w:World) (hm:m.c=keyC) (h:TrR w v [m]):Calls Tryz.prog 26 #[v,.string ⟨#[65]⟩,.int .i64 25,.bool false] w fun e w'=>e=.returned (.tuple #[.agg #[.string ⟨#[]⟩,.int .i64 0,.bool false,.slice none 0 0],.int .i64 3])∧Gr w w':=by
 have hmf:=hmf_any Tryz.prog
 have HD:Hid (∀ w',Calls Tryz.prog 28 #[.int .i64 25,.bool false] w' fun e w''=>e=.returned (.tuple #[.int .i64 (C19.dayN 25 false),.int .i64 0])∧w'=w''):=Lib.hid fun w'=>C19.day_yes 25 false w' (by decide)
 have HT:Hid (∀ w',Calls Tryz.prog 29 #[.string ⟨#[65]⟩] w' fun e w''=>e=.returned (.bool true)∧Gr w' w''):=Lib.hid fun w'=>by
  have:=title_any ⟨#[65]⟩ w' (by decide +kernel)
  rwa [show vLine ⟨#[65]⟩=true by decide +kernel] at this
 have HV:Hid (∀ w',Gr w w'→Calls Tryz.prog 34 #[v] w' fun e w''=>e=.returned (.bool true)∧Gr w' w''):=Lib.hid fun w' hg=>vtrackE_any v [m] w' (.inr ⟨m,rfl,hm⟩) (h.gr hg)
 have HN:Hid (∀ w',Gr w w'→Calls Tryz.prog 17 #[v] w' fun e w''=>∃ (b o c:Nat) (x:Option Addr) (y:Nat),e=.returned (.slice (some ⟨b,o,none⟩) 1 c)∧Gr w' w''∧b<w''.heap.size∧∀ (j:Nat) (u:Value),([.int .i64 1,.int .i64 4,.int .i64 0,.string ⟨#[]⟩,.int .i64 0,.int .i64 0,.int .i64 0,.int .i64 0,.bool false,.int .i64 0,.string ⟨#[]⟩,.int .i64 0,.int .i64 0,.int .i64 0,.int .i64 0,.bool false,.int .i64 0,.int .i64 0,.int .i64 0,.string ⟨#[]⟩,.int .i64 0,.slice x 0 y]:List Value)[j]?=some u→w''.cell? ⟨b,o+j,none⟩=some u):=Lib.hid fun w' hg=>by
  refine (normE_any v [m] w' (.inr ⟨m,rfl,hm⟩) (h.gr hg)).mono fun e w'' ⟨v',ts,h1,h2,h3,h4⟩=>?_
  obtain⟨m',rfl⟩:=List.length_eq_one_iff.1 (show ts.length=1 by have:=congrArg List.length h4;simpa using this)
  have h4':m'.c=keyC:=by rw [← hm];exact (List.cons.inj h4).1
  obtain⟨a2,cap2,hcl⟩:=key_cells h4' (h3.ch m' (.head _))
  obtain⟨a3,cap3,rfl,hq⟩:=h3.shape
  rcases hq with hq | ⟨b,o,rfl,hb,hc⟩
  ·simp at hq
  refine⟨b,o,cap3,a2,cap2,h1,h2,hb,fun j u hu=>?_⟩
  rw [← hcl] at hu
  have:=hc 0 (by simp) j u hu
  rw [Nat.zero_mul,Nat.add_zero] at this
  exact this
 have HE:=Lib.hid eventOfK
 generalize C19.dayN 25 false=day at *
 clear h
 have fin:∀ w1:World,Gr ((w.alloc (.cells #[.string ⟨#[]⟩,.int .i64 0,.bool false,.slice none 0 0] 25)).alloc (.cells #[.int .i64 0] 29)) w1→Gr w w1∧Cel w1 w.heap.size [.string ⟨#[]⟩,.int .i64 0,.bool false,.slice none 0 0]∧Cel w1 (w.heap.size+1) [.int .i64 0]:=by
  intro w1 hg1
  have k0:=(Cel.new w #[.string ⟨#[]⟩,.int .i64 0,.bool false,.slice none 0 0] 25).alloc (.cells #[.int .i64 0] 29) |>.gr hg1
  have k1:=(Cel.new (w.alloc (.cells #[.string ⟨#[]⟩,.int .i64 0,.bool false,.slice none 0 0] 25)) #[.int .i64 0] 29).gr hg1
  simp at k0 k1
  exact⟨(((Gr.refl w).alloc _).alloc _).trans hg1,k0,k1⟩
 have fin:=Lib.hid fin
 go_enter_defers Tryz.func26,Tryz.ntmps26
 go_upto_region 5 with (first
  | (go_at_call 28;(with_reducible refine (HD.out _).mono ?_);rintro e w0 ⟨rfl,rfl⟩)
  | (go_at_call 34;(with_reducible refine (HV.out _ ?_).mono ?_);(· exact (by repeat (first | with_reducible exact Gr.refl _ | with_reducible assumption | refine Gr.setCell ?_ (by first | omega | (simp;done) | (simp;omega)) _ | refine Gr.alloc ?_ _ | refine Gr.drew ?_ | refine Gr.drewN ?_ _ | refine Gr.trans ?_ (by with_reducible assumption))));rintro e w1 ⟨rfl,hg1⟩)
  | (go_at_call 29;(with_reducible refine (HT.out _).mono ?_);rintro e w2 ⟨rfl,hg2⟩))
 obtain⟨hgw,k0,k1⟩:=fin.out _ (hg1.trans hg2)
 have f0:=k0.lt
 obtain⟨c1,f1⟩:=k0.2 0 _ rfl
 obtain⟨c2,f2⟩:=k0.2 1 _ rfl
 obtain⟨c3,f3⟩:=k0.2 2 _ rfl
 obtain⟨c4,f4⟩:=k0.2 3 _ rfl
 go_upto_region 7 with fail
 have kk:=(((k0.set (k:=0) (by simp) (.string ⟨#[65]⟩)).set (k:=1) (by simp) (.int .i64 25)).set (k:=2) (by simp) (.bool false)).set (k:=3) (by simp) (.slice none 0 0)
 simp only [zS,zZ] at kk
 have kk1:=(((k1.other (p:=⟨w.heap.size,0,none⟩) (by simp) (.string ⟨#[65]⟩)).other (p:=⟨w.heap.size,1,none⟩) (by simp) (.int .i64 25)).other (p:=⟨w.heap.size,2,none⟩) (by simp) (.bool false)).other (p:=⟨w.heap.size,3,none⟩) (by simp) (.slice none 0 0)
 have hgk:Gr w ((((w2.setCell ⟨w.heap.size,0,none⟩ (.string ⟨#[65]⟩)).setCell ⟨w.heap.size,1,none⟩ (.int .i64 25)).setCell ⟨w.heap.size,2,none⟩ (.bool false)).setCell ⟨w.heap.size,3,none⟩ (.slice none 0 0)):=(((hgw.setCell (Nat.le_refl _) _).setCell (Nat.le_refl _) _).setCell (Nat.le_refl _) _).setCell (Nat.le_refl _) _
 clear k0 k1 hgw hg1 hg2 c1 c2 c3 c4 f0 f1 f2 f3 f4 fin
 generalize (((w2.setCell ⟨w.heap.size,0,none⟩ (.string ⟨#[65]⟩)).setCell ⟨w.heap.size,1,none⟩ (.int .i64 25)).setCell ⟨w.heap.size,2,none⟩ (.bool false)).setCell ⟨w.heap.size,3,none⟩ (.slice none 0 0)=W at *
 go_wp2_with (go_at_call 17;(with_reducible refine (HN.out _ hgk).mono ?_);rintro e w3 ⟨b,o,c,x,y,rfl,hg3,hb3,hc3⟩)
 have kk3:=kk.gr hg3
 have kk13:=kk1.gr hg3
 have hgk3:=hgk.trans hg3
 clear hg3 kk kk1 hgk
 obtain⟨k,hk22⟩:∃ k,22=k:=⟨_,rfl⟩
 have aE:∀ w,(isAgg 61).run Tryz.prog w=.ok true w:=Tryz.isAgg61
 have zE:∀ w,(Go.sizeOf 61).run Tryz.prog w=.ok k w:=fun w=>by rw [← hk22];exact Tryz.sizeOf61 w
 replace hk22:=Lib.hid hk22
 go_loopw [12,47] (fun at_ i wr=>at_=.int .i64 0∧i=.int .i64 0∧Gr w3 wr) (fun _ i _=>0)
 case atStart=>exact⟨rfl,rfl,Gr.refl _⟩
 case round=>
  obtain⟨rfl,rfl,hg⟩:=hrel
  obtain⟨l,hl⟩:∃ l:List Value,[.int .i64 1,.int .i64 4,.int .i64 0,.string ⟨#[]⟩,.int .i64 0,.int .i64 0,.int .i64 0,.int .i64 0,.bool false,.int .i64 0,.string ⟨#[]⟩,.int .i64 0,.int .i64 0,.int .i64 0,.int .i64 0,.bool false,.int .i64 0,.int .i64 0,.int .i64 0,.string ⟨#[]⟩,.int .i64 0,.slice x 0 y]=l:=⟨_,rfl⟩
  rw [hl] at hc3
  have hl0:l[0]?=some (.int .i64 1):=by rw [← hl];rfl
  have hl1:l[1]?=some (.int .i64 4):=by rw [← hl];rfl
  have hlk:l.length=k:=by rw [← hl,← hk22.out];rfl
  have hone:∀ v∈l,v.oneCell'=true:=fun v hv=>by
   rw [← hl] at hv
   simp only [List.mem_cons,List.not_mem_nil,or_false] at hv
   rcases hv with rfl | rfl | rfl | rfl | rfl | rfl | rfl | rfl | rfl | rfl | rfl | rfl | rfl | rfl | rfl | rfl | rfl | rfl | rfl | rfl | rfl | rfl <;> rfl
  have HEl:Hid (∀ w',Calls Tryz.prog 53 #[.agg l.toArray,.slice none 0 0,.int .i64 0] w' fun e w''=>e=.returned (.tuple #[evZ,.bool false])∧Gr w' w''):=Lib.hid fun w'=>by rw [← hl];exact HE.out x y w'
  replace hl:=Lib.hid hl
  have hbr:b<wr.heap.size:=Nat.lt_of_lt_of_le hb3 hg.size
  have la:Sem.run Tryz.prog (loadCellsFrom ⟨b,o,none⟩ 0 k #[]) wr=.ok l.toArray wr:=ld_row hlk fun j u hu=>(hg.cells.1 b _ hb3).trans (hc3 j u hu)
  have st:Sem.run Tryz.prog (storeCells ⟨wr.heap.size,0,none⟩ l 0) (wr.alloc (.cells #[.int .i64 0,.int .i64 0,.int .i64 0,.string ⟨#[]⟩,.int .i64 0,.int .i64 0,.int .i64 0,.int .i64 0,.bool false,.int .i64 0,.string ⟨#[]⟩,.int .i64 0,.int .i64 0,.int .i64 0,.int .i64 0,.bool false,.int .i64 0,.int .i64 0,.int .i64 0,.string ⟨#[]⟩,.int .i64 0,.slice none 0 0] 61))=.ok () (wr.alloc (.cells l.toArray 61)):=st_new wr _ _ l (by rw [hlk,← hk22.out];exact infoClip) (by rw [hlk,← hk22.out];rfl) hone
  have hbx:=Cel.new wr l.toArray 61
  have y0:=(hbx.2 0 _ hl0).1
  have y1:=(hbx.2 1 _ hl1).1
  have kk4:=kk3.gr (hg.trans ((Gr.refl wr).alloc (.cells l.toArray 61)))
  have kk14:=kk13.gr (hg.trans ((Gr.refl wr).alloc (.cells l.toArray 61)))
  have z0:=kk4.lt
  have z3:=(kk4.2 3 _ rfl).1
  go_upto_region 14 with fail
  have hgz:=(hgk3.trans hg).alloc (.cells l.toArray 61)
  obtain⟨Xb,hXb⟩:∃ Xb,wr.heap.size=Xb:=⟨_,rfl⟩
  rw [hXb] at hbx y0 y1 ⊢
  clear la st hXb kk3 kk13
  generalize wr.alloc (.cells l.toArray 61)=W5 at *
  refine wp_region_gr (by kernel_rfl) (by kernel_rfl) (fun hq1 hq2=>?_)
  repeat (first | go_big_quiet_skip | (go_big_quiet_want;go_big_quiet_op;first | go_big_quiet_on | (apply Exists.intro;refine⟨fun _=>?_,?_⟩;(· (fail));go_big_quiet_on)))
  refine wpQuiet_nil ?_
  clear hq1 hq2
  rintro w6 ⟨⟨_,hg6⟩,rfl⟩
  obtain⟨hc6,hf6⟩:=hg6.cells
  have hz6:=hg6.size
  (try simp at hz6);(try have hl6_0_0:w.heap.size<w6.heap.size:=by omega);(try have hm6_0_0:w.heap.size≤w6.heap.size:=by omega);(try have hl6_0_1:w.heap.size+1<w6.heap.size:=by omega);(try have hl6_0_2:w.heap.size+2<w6.heap.size:=by omega);(try have hl6_1_0:w1.heap.size<w6.heap.size:=by omega);(try have hm6_1_0:w1.heap.size≤w6.heap.size:=by omega);(try have hl6_1_1:w1.heap.size+1<w6.heap.size:=by omega);(try have hl6_1_2:w1.heap.size+2<w6.heap.size:=by omega);(try have hl6_2_0:w2.heap.size<w6.heap.size:=by omega);(try have hm6_2_0:w2.heap.size≤w6.heap.size:=by omega);(try have hl6_2_1:w2.heap.size+1<w6.heap.size:=by omega);(try have hl6_2_2:w2.heap.size+2<w6.heap.size:=by omega);(try have hl6_3_0:w3.heap.size<w6.heap.size:=by omega);(try have hm6_3_0:w3.heap.size≤w6.heap.size:=by omega);(try have hl6_3_1:w3.heap.size+1<w6.heap.size:=by omega);(try have hl6_3_2:w3.heap.size+2<w6.heap.size:=by omega);(try have hl6_4_0:w4.heap.size<w6.heap.size:=by omega);(try have hm6_4_0:w4.heap.size≤w6.heap.size:=by omega);(try have hl6_4_1:w4.heap.size+1<w6.heap.size:=by omega);(try have hl6_4_2:w4.heap.size+2<w6.heap.size:=by omega);(try have hl6_5_0:w5.heap.size<w6.heap.size:=by omega);(try have hm6_5_0:w5.heap.size≤w6.heap.size:=by omega);(try have hl6_5_1:w5.heap.size+1<w6.heap.size:=by omega);(try have hl6_5_2:w5.heap.size+2<w6.heap.size:=by omega)
  have kk6:=kk4.gr hg6
  have hbx6:=hbx.gr hg6
  have lb:=ld_cel (P:=Tryz.prog) hlk hbx6
  have x0:=kk6.lt
  obtain⟨x1,m1⟩:=kk6.2 0 _ rfl
  obtain⟨x2,m2⟩:=kk6.2 1 _ rfl
  obtain⟨x3,m3⟩:=kk6.2 2 _ rfl
  obtain⟨x4,m4⟩:=kk6.2 3 _ rfl
  clear kk4 hbx y0 y1 z0 z3
  go_wp2_with (go_at_call 53;(with_reducible refine (HEl.out _).mono ?_);rintro e w7 ⟨rfl,hg7⟩;have kk8:=(kk6.gr hg7).alloc (.cells #[.int .i64 0,.int .i64 0,.int .i64 0,.string ⟨#[]⟩,.int .i64 0,.int .i64 0,.int .i64 0,.int .i64 0] 38);have kk18:=((kk14.gr hg6).gr hg7).alloc (.cells #[.int .i64 0,.int .i64 0,.int .i64 0,.string ⟨#[]⟩,.int .i64 0,.int .i64 0,.int .i64 0,.int .i64 0] 38);have hg8:=((hgz.trans hg6).trans hg7).alloc (.cells #[.int .i64 0,.int .i64 0,.int .i64 0,.string ⟨#[]⟩,.int .i64 0,.int .i64 0,.int .i64 0,.int .i64 0] 38);have v0:=kk8.lt;obtain⟨v1,n1⟩:=kk8.2 0 _ rfl;obtain⟨v2,n2⟩:=kk8.2 1 _ rfl;obtain⟨v3,n3⟩:=kk8.2 2 _ rfl;obtain⟨v4,n4⟩:=kk8.2 3 _ rfl;obtain⟨v5,n5⟩:=kk18.one;have v6:=kk18.lt)
  have e1:=((((kk8.set (k:=0) (by simp) (.string ⟨#[]⟩)).set (k:=1) (by simp) (.int .i64 0)).set (k:=2) (by simp) (.bool false)).set (k:=3) (by simp) (.slice none 0 0)).other (p:=⟨w.heap.size+1,0,none⟩) (by simp) (.int .i64 3)
  have e2:=((((kk18.other (p:=⟨w.heap.size,0,none⟩) (by simp) (.string ⟨#[]⟩)).other (p:=⟨w.heap.size,1,none⟩) (by simp) (.int .i64 0)).other (p:=⟨w.heap.size,2,none⟩) (by simp) (.bool false)).other (p:=⟨w.heap.size,3,none⟩) (by simp) (.slice none 0 0)).set (k:=0) (by simp) (.int .i64 3)
  simp only [zS,zZ] at e1 e2
  have hgZ:Gr w ((((((w7.alloc (.cells #[.int .i64 0,.int .i64 0,.int .i64 0,.string ⟨#[]⟩,.int .i64 0,.int .i64 0,.int .i64 0,.int .i64 0] 38)).setCell ⟨w.heap.size,0,none⟩ (.string ⟨#[]⟩)).setCell ⟨w.heap.size,1,none⟩ (.int .i64 0)).setCell ⟨w.heap.size,2,none⟩ (.bool false)).setCell ⟨w.heap.size,3,none⟩ (.slice none 0 0)).setCell ⟨w.heap.size+1,0,none⟩ (.int .i64 3)):=((((hg8.setCell (Nat.le_refl _) _).setCell (Nat.le_refl _) _).setCell (Nat.le_refl _) _).setCell (Nat.le_refl _) _).setCell (by simp) _
  have r1:=(e1.2 0 _ rfl).1
  have r2:=(e1.2 1 _ rfl).1
  have r3:=(e1.2 2 _ rfl).1
  have r4:=(e1.2 3 _ rfl).1
  have r5:=e2.one.1
  clear e1 e2 v0 v1 v2 v3 v4 v5 v6 n1 n2 n3 n4 n5 kk8 kk18
  generalize (((((w7.alloc (.cells #[.int .i64 0,.int .i64 0,.int .i64 0,.string ⟨#[]⟩,.int .i64 0,.int .i64 0,.int .i64 0,.int .i64 0] 38)).setCell ⟨w.heap.size,0,none⟩ (.string ⟨#[]⟩)).setCell ⟨w.heap.size,1,none⟩ (.int .i64 0)).setCell ⟨w.heap.size,2,none⟩ (.bool false)).setCell ⟨w.heap.size,3,none⟩ (.slice none 0 0)).setCell ⟨w.heap.size+1,0,none⟩ (.int .i64 3)=Z at *
  refine leaves_cons (f:=51) (args:=#[.pointer (some ⟨w.heap.size,0,none⟩),.pointer (some ⟨w.heap.size+1,0,none⟩)]) (by simp) (by simp [go_sem]) ?_
  refine (ofD_idle _ _ _).mono ?_
  rintro e u' w'' ⟨rfl,rfl,rfl⟩
  simp [Leaves,settle,results,Tryz.results26,go_sem,r1,r2,r3,r4,r5]
  exact hgZ
def awE:Ev:=⟨0,0,0,⟨#[109,48]⟩,25,50,0,25⟩
def awM:El:=⟨⟨#[65]⟩,25,false,[awE]⟩
theorem key_row (w:World):TrR (w.alloc (.cells #[.int .i64 1,.int .i64 4,.int .i64 0,.string ⟨#[]⟩,.int .i64 0,.int .i64 0,.int .i64 0,.int .i64 0,.bool false,.int .i64 0,.string ⟨#[]⟩,.int .i64 0,.int .i64 0,.int .i64 0,.int .i64 0,.bool false,.int .i64 0,.int .i64 0,.int .i64 0,.string ⟨#[]⟩,.int .i64 0,.slice none 0 0] 61)) (.slice (some ⟨w.heap.size,0,none⟩) 1 1) [⟨keyC,.slice none 0 0⟩]:=
 ⟨Rd.new w #[.int .i64 1,.int .i64 4,.int .i64 0,.string ⟨#[]⟩,.int .i64 0,.int .i64 0,.int .i64 0,.int .i64 0,.bool false,.int .i64 0,.string ⟨#[]⟩,.int .i64 0,.int .i64 0,.int .i64 0,.int .i64 0,.bool false,.int .i64 0,.int .i64 0,.int .i64 0,.string ⟨#[]⟩,.int .i64 0,.slice none 0 0] 61 1 22 1 rfl,fun c hc=>by rw [List.mem_singleton.1 hc];exact Rd.nil _ 1⟩
set_option maxRecDepth 20000 in
set_option maxHeartbeats 8000000 in
theorem eawake_any (w:World) (hT:Pow w):Calls Tryz.prog 11 #[] w fun e w'=>e=.returned (.bool true)∧Gr w w':=by
 obtain⟨S,hS⟩:∃ S:ByteArray,⟨(fmtB awM).toArray⟩=S:=⟨_,rfl⟩
 have HF:Hid (∀ (g:Nat) w',Gr w w'→Cel w' g awE.cells→Calls Tryz.prog 25 #[.agg #[.string ⟨#[65]⟩,.int .i64 25,.bool false,.slice (some ⟨g,0,none⟩) 1 1]] w' fun e w''=>e=.returned (.tuple #[.string S,.int .i64 0])∧Gr w' w''):=Lib.hid fun g w' hg hc=>by
  have:=eformat_yes awM (.slice (some ⟨g,0,none⟩) 1 1) w' ⟨⟨rfl,some ⟨g,0,none⟩,1,rfl,.inr ⟨g,0,rfl,hc.lt,fun j u hu=>by rw [Nat.zero_add];exact (hc.2 j u hu).1⟩⟩,by decide,fun e he=>by rw [List.mem_singleton.1 he];decide,by decide⟩ (by decide +kernel) (Pow.gr hg hT)
  rw [hS] at this
  exact this
 have HT2:Hid (∀ w',Calls Tryz.prog 5 #[.agg #[.string ⟨#[65]⟩,.int .i64 25,.bool false,.slice none 0 0]] w' fun e w''=>∃ a c,e=.returned (.tuple #[.slice a 0 c,.int .i64 0])∧Gr w' w''):=Lib.hid etrack0
 have HO:Hid (∀ (v:Value) (m:CM) w',m.c=keyC→TrR w' v [m]→Calls Tryz.prog 26 #[v,.string ⟨#[65]⟩,.int .i64 25,.bool false] w' fun e w''=>e=.returned (.tuple #[.agg #[.string ⟨#[]⟩,.int .i64 0,.bool false,.slice none 0 0],.int .i64 3])∧Gr w' w''):=Lib.hid ofK
 replace hS:=Lib.hid hS
 replace hT:=Lib.hid hT
 have hc0:Cel (w.alloc (.cells #[.int .i64 0,.int .i64 0,.int .i64 0,.string ⟨#[109,48]⟩,.int .i64 25,.int .i64 50,.int .i64 0,.int .i64 25] 38)) w.heap.size awE.cells:=Cel.new w #[.int .i64 0,.int .i64 0,.int .i64 0,.string ⟨#[109,48]⟩,.int .i64 25,.int .i64 50,.int .i64 0,.int .i64 25] 38
 go_enter Tryz.func11,Tryz.ntmps11
 go_upto_region 5 with (first
  | (go_at_call 25;(with_reducible refine (HF.out _ _ ?_ ?_).mono ?_);(· exact ((Gr.refl w).alloc _).alloc _);(· exact hc0.alloc _);rintro e w2 ⟨rfl,hg2⟩;have hgw2:Gr w w2:=(((Gr.refl w).alloc _).alloc _).trans hg2)
  | (go_at_call 5;(with_reducible refine (HT2.out _).mono ?_);rintro e w3 ⟨a3,c3,rfl,hg3⟩;have hgw3:=hgw2.trans hg3;have hkR:TrR (w3.alloc (.cells #[.int .i64 1,.int .i64 4,.int .i64 0,.string ⟨#[]⟩,.int .i64 0,.int .i64 0,.int .i64 0,.int .i64 0,.bool false,.int .i64 0,.string ⟨#[]⟩,.int .i64 0,.int .i64 0,.int .i64 0,.int .i64 0,.bool false,.int .i64 0,.int .i64 0,.int .i64 0,.string ⟨#[]⟩,.int .i64 0,.slice none 0 0] 61)) (.slice (some ⟨w3.heap.size,0,none⟩) 1 1) [⟨keyC,.slice none 0 0⟩]:=key_row w3)
  | (go_at_call 26;(with_reducible refine (HO.out _ ⟨keyC,.slice none 0 0⟩ _ rfl hkR).mono ?_);rintro e w4 ⟨rfl,hg4⟩;have hgw4:=(hgw3.alloc (.cells #[.int .i64 1,.int .i64 4,.int .i64 0,.string ⟨#[]⟩,.int .i64 0,.int .i64 0,.int .i64 0,.int .i64 0,.bool false,.int .i64 0,.string ⟨#[]⟩,.int .i64 0,.int .i64 0,.int .i64 0,.int .i64 0,.bool false,.int .i64 0,.int .i64 0,.int .i64 0,.string ⟨#[]⟩,.int .i64 0,.slice none 0 0] 61)).trans hg4))
 go_wp2
 ·go_ret
  exact⟨rfl,(by repeat (first | with_reducible exact Gr.refl _ | with_reducible assumption | refine Gr.setCell ?_ (by first | omega | (simp;done) | (simp;omega)) _ | refine Gr.alloc ?_ _ | refine Gr.drew ?_ | refine Gr.drewN ?_ _ | refine Gr.trans ?_ (by with_reducible assumption)))⟩
 ·rename_i h
  refine absurd ?_ h
  rw [← hS.out,ByteArray.toList_eq]
  decide +kernel
end Go.Proofs.YtnginfangeikpaaGreatDoor
