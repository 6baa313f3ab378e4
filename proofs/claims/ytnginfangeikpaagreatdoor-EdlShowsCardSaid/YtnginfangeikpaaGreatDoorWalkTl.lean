/-
  Contract of equal of package timeline.
  Conditions: the clips' channels lie in memory.
-/
import Derived.Test.YtnginfangeikpaaGreatDoorWalkTf
import Derived.Test.YtnginfangeikpaaGreatDoorWalkU
import Derived.Deep.DeepCutAuto
namespace Go.Proofs.YtnginfangeikpaaGreatDoor
open Go.RowKit Go.Lib
set_option linter.unusedSimpArgs false
set_option linter.unusedVariables false
theorem cl_eq_iff (c d:Cl):decide (c=d)=((c.len == d.len) && ((c.kind == d.kind) && (decide (c.a=d.a) && (decide (c.b=d.b) && ((c.off == d.off) && ((c.tot == d.tot) && ((c.par == d.par) && ((c.tx.toList == d.tx.toList) && ((c.gain == d.gain) && decide (c.ch=d.ch)))))))))):=by
 have ht:(c.tx.toList == d.tx.toList)=decide (c.tx=d.tx):=by
  by_cases e:c.tx=d.tx
  ·rw [decide_eq_true e,e];simp
  ·rw [decide_eq_false e]
   exact beq_eq_false_iff_ne.2 fun h=>e (ba_toList.1 h)
 rw [ht]
 obtain⟨l1,k1,a1,b1,o1,t1,p1,x1,g1,c1⟩:=c
 obtain⟨l2,k2,a2,b2,o2,t2,p2,x2,g2,c2⟩:=d
 simp
 rfl
structure BoxF (w:World) (g:Nat) (c:Cl) (cv:Value):Prop where
 lt:g<w.heap.size
 h0:w.cell? ⟨g,0,none⟩=some (.int .i64 c.len)
 h1:w.cell? ⟨g,1,none⟩=some (.int .i64 c.kind)
 h16:w.cell? ⟨g,16,none⟩=some (.int .i64 c.off)
 h17:w.cell? ⟨g,17,none⟩=some (.int .i64 c.tot)
 h18:w.cell? ⟨g,18,none⟩=some (.int .i64 c.par)
 h19:w.cell? ⟨g,19,none⟩=some (.string c.tx)
 h20:w.cell? ⟨g,20,none⟩=some (.int .i64 c.gain)
 h21:w.cell? ⟨g,21,none⟩=some cv
theorem BoxF.of {w:World} {g:Nat} {m:CM} (h:Cel w g m.cells):BoxF w g m.c m.cv:=
 ⟨h.lt,(h.2 0 _ rfl).1,(h.2 1 _ rfl).1,(h.2 16 _ rfl).1,(h.2 17 _ rfl).1,(h.2 18 _ rfl).1,(h.2 19 _ rfl).1,(h.2 20 _ rfl).1,(h.2 21 _ rfl).1⟩
theorem box_src {P:Program} {w:World} {g k:Nat} {m:CM} (hk:7=k) (h:Cel w g m.cells) :
  Sem.run P (loadCellsFrom ⟨g,2,none⟩ 0 k #[]) w=.ok m.c.a.cells.toArray w∧Sem.run P (loadCellsFrom ⟨g,9,none⟩ 0 k #[]) w=.ok m.c.b.cells.toArray w:=by
 refine⟨ld_row (by rw [← hk];rfl) fun j u hu=>?_,ld_row (by rw [← hk];rfl) fun j u hu=>?_⟩
 all_goals
  have hj:j<7:=(List.getElem?_eq_some_iff.1 hu).1
  refine (h.2 _ u ?_).1
  rcases (show j=0∨j=1∨j=2∨j=3∨j=4∨j=5∨j=6 by omega) with rfl | rfl | rfl | rfl | rfl | rfl | rfl <;> exact hu
set_option maxRecDepth 20000 in
set_option maxHeartbeats 8000000 in
theorem equal_core (k7:Nat) (hk7:7=k7) (m n:CM) (w:World) (hm:ChR w m) (hn:ChR w n) (hl:m.c.ch.length * 8≤140737488355328):Calls Tryz.prog 88 #[m.val,n.val] w fun e w'=>e=.returned (.bool (decide (m.c=n.c)))∧Gr w w':=by
 have aE7:∀ w,(isAgg 59).run Tryz.prog w=.ok true w:=Tryz.isAgg59
 have zE7:∀ w,(Go.sizeOf 59).run Tryz.prog w=.ok k7 w:=fun w=>by rw [← hk7];exact Tryz.sizeOf59 w
 have hk0:¬ k7=0:=by omega
 have hea:∀ w,(binOp .eql 59 (.agg m.c.a.cells.toArray) (.agg n.c.a.cells.toArray)).run Tryz.prog w=.ok (.bool (decide (m.c.a=n.c.a))) w:=fun w=>eq_src m.c.a n.c.a w
 have heb:∀ w,(binOp .eql 59 (.agg m.c.b.cells.toArray) (.agg n.c.b.cells.toArray)).run Tryz.prog w=.ok (.bool (decide (m.c.b=n.c.b))) w:=fun w=>eq_src m.c.b n.c.b w
 have HE:Hid (∀ w',Gr w w'→Calls Tryz.prog 118 #[m.cv,n.cv] w' fun e w''=>e=.returned (.bool (decide (m.c.ch=n.c.ch)))∧Gr w' w''):=Lib.hid fun w' hg=>eqI_any m.cv n.cv m.c.ch n.c.ch w' (by omega) (Rd.gr hg hm) (Rd.gr hg hn)
 obtain⟨a1,cap1,hv1⟩:=hm.slice
 obtain⟨a2,cap2,hv2⟩:=hn.slice
 rw [hv1,hv2] at HE
 have hbm:Cel ((w.alloc (.cells m.cells.toArray 61)).alloc (.cells n.cells.toArray 61)) w.heap.size m.cells:=(Cel.new w m.cells.toArray 61).alloc _
 have hbn:Cel ((w.alloc (.cells m.cells.toArray 61)).alloc (.cells n.cells.toArray 61)) (w.heap.size+1) n.cells:=by
  have:=Cel.new (w.alloc (.cells m.cells.toArray 61)) n.cells.toArray 61
  simpa using this
 have hgA:Gr w ((w.alloc (.cells m.cells.toArray 61)).alloc (.cells n.cells.toArray 61)):=((Gr.refl w).alloc _).alloc _
 obtain⟨x,x0,x1,x16,x17,x18,x19,x20,x21⟩:=BoxF.of hbm
 obtain⟨y,y0,y1,y16,y17,y18,y19,y20,y21⟩:=BoxF.of hbn
 obtain⟨s1,s2⟩:=box_src (P:=Tryz.prog) hk7 hbm
 obtain⟨s3,s4⟩:=box_src (P:=Tryz.prog) hk7 hbn
 replace hk7:=Lib.hid hk7
 rw [hv1] at x21
 rw [hv2] at y21
 rw [cl_eq_iff]
 unfold CM.val
 clear hbm hbn hv1 hv2 hm hn
 generalize m.cells=l1 at *
 generalize n.cells=l2 at *
 generalize m.c.a.cells=la1 at *
 generalize m.c.b.cells=lb1 at *
 generalize n.c.a.cells=la2 at *
 generalize n.c.b.cells=lb2 at *
 generalize m.c.ch.length=cl1 at *
 generalize n.c.ch.length=cl2 at *
 obtain⟨⟨len,kind,a,b,off,tot,par,tx,gain,ch⟩,cv⟩:=m
 obtain⟨⟨len',kind',a',b',off',tot',par',tx',gain',ch'⟩,cv'⟩:=n
 simp only at *
 obtain⟨R,hR⟩:∃ R,((len == len') && ((kind == kind') && (decide (a=a') && (decide (b=b') && ((off == off') && ((tot == tot') && ((par == par') && ((tx.toList == tx'.toList) && ((gain == gain') && decide (ch=ch'))))))))))=R:=⟨_,rfl⟩
 rw [hR]
 generalize decide (a=a')=Ra at *
 generalize decide (b=b')=Rb at *
 generalize decide (ch=ch')=Rc at *
 generalize hE1:(len == len')=E1 at *
 generalize hE2:(kind == kind')=E2 at *
 generalize hE3:(off == off')=E3 at *
 generalize hE4:(tot == tot')=E4 at *
 generalize hE5:(par == par')=E5 at *
 generalize hE6:(tx.toList == tx'.toList)=E6 at *
 generalize hE7:(gain == gain')=E7 at *
 replace hR:=Lib.hid hR
 go_enter Tryz.func88,Tryz.ntmps88
 go_wp2_with (go_at_call 118;(with_reducible refine (HE.out _ hgA).mono ?_);rintro e w5 ⟨rfl,hg5⟩)
 all_goals go_ret
 all_goals refine⟨?_,(by first | exact hgA | exact hgA.trans hg5)⟩
 all_goals have hh:=hR.out
 all_goals simp_all
theorem VS.ok {s:Sr} (h:VS s):SrOk s:=by
 have h1:=h.k
 have h2:=h.nm
 have h3:=h.a2
 have h4:=h.s2
 obtain⟨d1,_,_⟩:=vB_inv h.sp
 obtain⟨a1,_,_⟩:=vB_inv h.a
 have ha:=h.a1
 have hs:=h.s1
 refine⟨⟨by omega,by omega⟩,?_,⟨by omega,by omega⟩,⟨by omega,by omega⟩,⟨by omega,by omega⟩,⟨by omega,by omega⟩⟩
 unfold nmB at h2
 simp only [Bool.and_eq_true,decide_eq_true_eq] at h2
 omega
theorem mv_way {s:Sr} (h:VS s) {n:Int} (n0:-4294967296≤n) (n1:n≤4294967296):∃ wn wd,rN (n * s.sn) (1 * s.sd)=wn∧rD (n * s.sn) (1 * s.sd)=wd∧vB wn wd=true∧I64 wn∧I64 wd ∧
  rN (s.an * wd+wn * s.ad) (s.ad * wd)=rN (mvX s n) (mvY s)∧rD (s.an * wd+wn * s.ad) (s.ad * wd)=rD (mvX s n) (mvY s):=by
 obtain⟨d1,d2,d3⟩:=vB_inv h.sp
 obtain⟨a1,a2,a3⟩:=vB_inv h.a
 obtain⟨s1,s2⟩:=h.s2
 have hs:=h.s1
 have hn:=abs_mul_le n0 n1 (B:=1024 * s.sd) (by omega) (by omega) (by omega) (by omega) (x:=n) (y:=s.sn)
 rw [Int.one_mul]
 obtain⟨N,hN⟩:∃ N,n * s.sn=N:=⟨_,rfl⟩
 rw [hN] at hn ⊢
 have hf:rF N s.sd=true:=rF_small (by omega) (by omega) (by omega) (by omega)
 have hg:=gc_pos_right N s.sd (by omega)
 have hgle:=gc_le_right N s.sd (by omega)
 have e1:rN N s.sd=N / gc N s.sd:=by unfold rN;rw [if_pos hf]
 have e2:rD N s.sd=s.sd / gc N s.sd:=by unfold rD;rw [if_pos hf]
 have hp:N / gc N s.sd * gc N s.sd=N:=Int.ediv_mul_cancel (gc_dvd_left N s.sd)
 have hq:s.sd / gc N s.sd * gc N s.sd=s.sd:=Int.ediv_mul_cancel (gc_dvd_right N s.sd)
 have hpq:=gc_quots hg
 refine⟨N / gc N s.sd,s.sd / gc N s.sd,e1,e2,?_⟩
 clear e1 e2
 generalize N / gc N s.sd=p at *
 generalize s.sd / gc N s.sd=q at *
 generalize gc N s.sd=g at *
 have q1:1≤q:=by
  rcases Int.lt_or_le q 1 with h | h
  ·have:q * g≤0 * g:=Int.mul_le_mul_of_nonneg_right (by omega) (by omega)
   omega
  ·exact h
 have q2:q≤s.sd:=by
  have:q * 1≤q * g:=Int.mul_le_mul_of_nonneg_left (by omega) (by omega)
  omega
 have p1:-4611686018427387904≤p∧p≤4611686018427387904:=by
  constructor
  ·rcases Int.lt_or_le p (-4611686018427387904) with h | h
   ·have:-p * 1≤-p * g:=Int.mul_le_mul_of_nonneg_left (by omega) (by omega)
    rw [Int.neg_mul,Int.neg_mul,hp] at this
    omega
   ·exact h
  ·rcases Int.lt_or_le 4611686018427387904 p with h | h
   ·have:p * 1≤p * g:=Int.mul_le_mul_of_nonneg_left (by omega) (by omega)
    omega
   ·exact h
 refine⟨vB_true q1 (by omega) hpq,⟨by omega,by omega⟩,⟨by omega,by omega⟩,?_⟩
 have hY':0<s.ad * q:=Int.mul_pos (by omega) (by omega)
 have hY:0<mvY s:=Int.mul_pos (by omega) (by omega)
 have he:(s.an * q+p * s.ad) * mvY s=mvX s n * (s.ad * q):=by
  unfold mvX mvY
  rw [hN,← hp,← hq]
  grind
 obtain⟨_,r2,r3,_⟩:=red_unique hY' hY he
 exact⟨r2,r3⟩
set_option maxRecDepth 20000 in
set_option maxHeartbeats 4000000 in
theorem moved_core (k7:Nat) (hk7:7=k7) (s:Sr) (n:Int) (w:World) (h:vSr s) (n0:-4294967296≤n) (n1:n≤4294967296) :
  Calls Tryz.prog 86 #[s.val,.int .i64 n] w fun e w'=>e=.returned (mvS s n).val∧Gr w w':=by
 have aE7:∀ w,(isAgg 59).run Tryz.prog w=.ok true w:=Tryz.isAgg59
 have zE7:∀ w,(Go.sizeOf 59).run Tryz.prog w=.ok k7 w:=fun w=>by rw [← hk7];exact Tryz.sizeOf59 w
 have hk0:¬ k7=0:=by omega
 have he:=eq_blk s
 have hone:∀ v∈s.cells,v.oneCell'=true:=fun v hv=>by
  unfold Sr.cells at hv
  simp only [List.mem_cons,List.not_mem_nil,or_false] at hv
  rcases hv with rfl | rfl | rfl | rfl | rfl | rfl | rfl <;> rfl
 have hgA:Gr w ((w.alloc (.cells s.cells.toArray 59)).alloc (.cells #[.int .i64 0,.string ⟨#[]⟩,.int .i64 0,.int .i64 0,.int .i64 0,.int .i64 0,.bool false] 59)):=((Gr.refl w).alloc _).alloc _
 have hb0:Blk ((w.alloc (.cells s.cells.toArray 59)).alloc (.cells #[.int .i64 0,.string ⟨#[]⟩,.int .i64 0,.int .i64 0,.int .i64 0,.int .i64 0,.bool false] 59)) w.heap.size 59 s.cells:=(Blk.new w s.cells 59).gr ((Gr.refl _).alloc _)
 have hb1:Blk ((w.alloc (.cells s.cells.toArray 59)).alloc (.cells #[.int .i64 0,.string ⟨#[]⟩,.int .i64 0,.int .i64 0,.int .i64 0,.int .i64 0,.bool false] 59)) (w.heap.size+1) 59 [.int .i64 0,.string ⟨#[]⟩,.int .i64 0,.int .i64 0,.int .i64 0,.int .i64 0,.bool false]:=by
  have:=Blk.new (w.alloc (.cells s.cells.toArray 59)) [.int .i64 0,.string ⟨#[]⟩,.int .i64 0,.int .i64 0,.int .i64 0,.int .i64 0,.bool false] 59
  simpa using this
 have hlk:s.cells.length=k7:=by rw [← hk7];rfl
 rw [show s.val=.agg s.cells.toArray from rfl] at he ⊢
 replace hk7:=Lib.hid hk7
 rcases h with h | h
 ·rw [decide_eq_true h] at he
  rw [show mvS s n=s by rw [h,mvS_blk],show s.val=.agg s.cells.toArray from rfl]
  generalize s.cells=l at *
  have lb:=ld_blk (P:=Tryz.prog) hlk hb0
  have st:=st_blk (P:=Tryz.prog) hb1 (by rw [hlk,← hk7.out];rfl) hone
  have hb2:=hb1.setRow l
  have lc:=ld_blk (P:=Tryz.prog) hlk hb2
  have hgC:=hgA.setRow (g:=w.heap.size+1) (by omega) l.toArray
  go_enter Tryz.func86,Tryz.ntmps86
  go_wp2
  simp [bodyPost,results,Tryz.results86,go_sem,aE7,zE7,lc]
  exact hgC
 ·rw [decide_eq_false h.ne] at he
  obtain⟨wn,wd,x1,x2,x3,x4,x5,x6,x7⟩:=mv_way h n0 n1
  obtain⟨_,_,_⟩:=vB_inv h.a
  have hok:=h.ok
  have vn:vB n 1=true:=vB_true (by omega) (by omega) (by unfold gc;simp)
  have HM:Hid (∀ w',∃ E,Calls Tryz.prog 116 #[.agg #[.int .i64 n,.int .i64 1],.agg #[.int .i64 s.sn,.int .i64 s.sd]] w' fun e w''=>e=.returned (.tuple #[.agg #[.int .i64 wn,.int .i64 wd],.int .i64 E])∧Gr w' w''):=Lib.hid fun w'=>⟨_,by
   have:=mul_valid n 1 s.sn s.sd w' ⟨by omega,by omega⟩ ⟨by omega,by omega⟩ hok.sn hok.sd vn h.sp
   rw [x1,x2] at this
   exact this⟩
  have HA:Hid (∀ w',∃ E,Calls Tryz.prog 117 #[.agg #[.int .i64 s.an,.int .i64 s.ad],.agg #[.int .i64 wn,.int .i64 wd]] w' fun e w''=>e=.returned (.tuple #[.agg #[.int .i64 (rN (mvX s n) (mvY s)),.int .i64 (rD (mvX s n) (mvY s))],.int .i64 E])∧Gr w' w''):=Lib.hid fun w'=>⟨_,by
   have:=add_valid s.an s.ad wn wd w' hok.an hok.ad x4 x5 h.a x3
   rw [x6,x7] at this
   exact this⟩
  have hmv:(mvS s n).val=.agg ((s.cells.set 2 (.int .i64 (rN (mvX s n) (mvY s)))).set 3 (.int .i64 (rD (mvX s n) (mvY s)))).toArray:=by
   rw [mvS_yes h.ne]
   rfl
  rw [hmv]
  have l2:s.cells[2]?=some (.int .i64 s.an):=rfl
  have l3:s.cells[3]?=some (.int .i64 s.ad):=rfl
  have l4:s.cells[4]?=some (.int .i64 s.sn):=rfl
  have l5:s.cells[5]?=some (.int .i64 s.sd):=rfl
  clear hmv x1 x2 x3 x6 x7 vn hok
  generalize rN (mvX s n) (mvY s)=xn at *
  generalize rD (mvX s n) (mvY s)=xd at *
  generalize s.cells=l at *
  generalize s.an=an at *
  generalize s.ad=ad at *
  generalize s.sn=sn at *
  generalize s.sd=sd at *
  have lb:=ld_blk (P:=Tryz.prog) hlk hb0
  have y0:=hb0.lt
  have y4:=(hb0.cel.2 4 _ l4).1
  have y5:=(hb0.cel.2 5 _ l5).1
  go_enter Tryz.func86,Tryz.ntmps86
  go_upto_region 5 with (first
   | (go_at_call 116;obtain⟨E1,HM1⟩:=HM.out _;(with_reducible refine HM1.mono ?_);rintro e w1 ⟨rfl,hg1⟩;have hr1:=Blk.new w1 [.int .i64 wn,.int .i64 wd] 57;have hb01:=(hb0.gr hg1).gr ((Gr.refl w1).alloc (.cells #[.int .i64 wn,.int .i64 wd] 57));have hb11:=(hb1.gr hg1).gr ((Gr.refl w1).alloc (.cells #[.int .i64 wn,.int .i64 wd] 57));have z0:=hb01.lt;have z2:=(hb01.cel.2 2 _ l2).1;have z3:=(hb01.cel.2 3 _ l3).1;have hgw1:=(hgA.trans hg1).alloc (.cells #[.int .i64 wn,.int .i64 wd] 57))
   | (go_at_call 117;obtain⟨E2,HA2⟩:=HA.out _;(with_reducible refine HA2.mono ?_);rintro e w2 ⟨rfl,hg2⟩;have hb02:=hb01.gr hg2;have hb12:=hb11.gr hg2;have v0:=hb02.lt;obtain⟨v2,f2⟩:=hb02.cel.2 2 _ l2;obtain⟨v3,f3⟩:=hb02.cel.2 3 _ l3;have hgw2:=hgw1.trans hg2))
  have hbA:=(hb02.cel.set (k:=2) (by rw [hlk,← hk7.out];omega) (.int .i64 xn)).set (k:=3) (by rw [List.length_set,hlk,← hk7.out];omega) (.int .i64 xd)
  have hbB:=(hb12.other (p:=⟨w.heap.size,2,none⟩) (by show w.heap.size≠w.heap.size+1;omega) (.int .i64 xn)).other (p:=⟨w.heap.size,3,none⟩) (by show w.heap.size≠w.heap.size+1;omega) (.int .i64 xd)
  have hgB:=(hgw2.setCell (p:=⟨w.heap.size,2,none⟩) (Nat.le_refl _) (.int .i64 xn)).setCell (p:=⟨w.heap.size,3,none⟩) (Nat.le_refl _) (.int .i64 xd)
  clear y0 y4 y5 z0 z2 z3 v0 v2 f2 v3 f3 hb02 hb12 hb01 hb11 hb0 hb1 hgw1 hgw2 lb
  generalize (w2.setCell ⟨w.heap.size,2,none⟩ (.int .i64 xn)).setCell ⟨w.heap.size,3,none⟩ (.int .i64 xd)=W3 at *
  have hone3:∀ v∈(l.set 2 (.int .i64 xn)).set 3 (.int .i64 xd),v.oneCell'=true:=fun v hv=>by
   rcases List.mem_or_eq_of_mem_set hv with hv | rfl
   ·rcases List.mem_or_eq_of_mem_set hv with hv | rfl
    ·exact hone v hv
    ·rfl
   ·rfl
  have hl3:((l.set 2 (.int .i64 xn)).set 3 (.int .i64 xd)).length=k7:=by simp [hlk]
  generalize hE:(l.set 2 (.int .i64 xn)).set 3 (.int .i64 xd)=l3 at *
  replace hE:=Lib.hid hE
  have lc:=ld_cel (P:=Tryz.prog) hl3 hbA
  have st:=st_blk (P:=Tryz.prog) hbB (by rw [hl3,← hk7.out];rfl) hone3
  have hb2:=hbB.setRow l3
  have ld:=ld_blk (P:=Tryz.prog) hl3 hb2
  have hgC:=hgB.setRow (g:=w.heap.size+1) (by omega) l3.toArray
  go_wp2
  simp [bodyPost,results,Tryz.results86,go_sem,aE7,zE7,ld]
  exact⟨hE.out.symm,hgC⟩
theorem moved_any (s:Sr) (n:Int) (w:World) (h:vSr s) (n0:-4294967296≤n) (n1:n≤4294967296):Calls Tryz.prog 86 #[s.val,.int .i64 n] w fun e w'=>e=.returned (mvS s n).val∧Gr w w':=moved_core 7 rfl s n w h n0 n1
theorem st_part {P:Program} {w:World} {g o:Nat} {t:TypeId} {vs l:List Value} (h:Blk w g t vs) (hl:o+l.length≤vs.length) (h1:∀ v∈l,v.oneCell'=true) :
  (storeCells ⟨g,o,none⟩ l 0).run P w=.ok () (w.setRow g (vs.take o ++ l ++ vs.drop (o+l.length)).toArray):=by
 have:=run_storeCells_at (P:=P) g o t l 0 vs.toArray w h (by simpa using hl) h1
 simpa using this
theorem Sr.one (s:Sr):∀ v∈s.cells,v.oneCell'=true:=fun v hv=>by
 unfold Sr.cells at hv
 simp only [List.mem_cons,List.not_mem_nil,or_false] at hv
 rcases hv with rfl | rfl | rfl | rfl | rfl | rfl | rfl <;> rfl
theorem hasShare_any (k:Int) (w:World):Calls Tryz.prog 87 #[.int .i64 k] w fun e w'=>e=.returned (.bool (shr k))∧Gr w w':=by
 have hs:shr k=((k == 2) || (k == 3)):=by
  unfold shr
  by_cases h2:k=2 <;> by_cases h3:k=3 <;> simp [h2,h3]
 rw [hs]
 generalize hE1:(k == 2)=E1 at *
 generalize hE2:(k == 3)=E2 at *
 go_enter Tryz.func87,Tryz.ntmps87
 go_wp2
 all_goals go_ret
 all_goals refine⟨?_,Gr.refl _⟩
 all_goals simp_all
def CM.src (m:CM) (a b:Sr):CM:=⟨⟨m.c.len,m.c.kind,a,b,m.c.off,m.c.tot,m.c.par,m.c.tx,m.c.gain,m.c.ch⟩,m.cv⟩
theorem src_a (n:CM) (a:Sr):n.cells.take 2 ++ a.cells ++ n.cells.drop (2+a.cells.length)=(n.src a n.c.b).cells:=rfl
theorem src_b (n:CM) (a b:Sr):(n.src a n.c.b).cells.take 9 ++ b.cells ++ (n.src a n.c.b).cells.drop (9+b.cells.length)=(n.src a b).cells:=rfl
set_option maxRecDepth 20000 in
set_option maxHeartbeats 8000000 in
theorem continues_core (k k7:Nat) (hk22:22=k) (hk7:7=k7) (m n:CM) (w:World) (hm:ChR w m) (hn:ChR w n) (hl:m.c.ch.length * 8≤140737488355328) (ha:vSr n.c.a) (hb:vSr n.c.b)
  (n0:0≤n.c.len) (n1:n.c.len≤4294967296) (o0:-1099511627776≤n.c.off) (o1:n.c.off≤1099511627776) :
  Calls Tryz.prog 60 #[m.val,n.val] w fun e w'=>e=.returned (.bool (cont n.c m.c))∧Gr w w':=by
 have aE7:∀ w,(isAgg 59).run Tryz.prog w=.ok true w:=Tryz.isAgg59
 have zE7:∀ w,(Go.sizeOf 59).run Tryz.prog w=.ok k7 w:=fun w=>by rw [← hk7];exact Tryz.sizeOf59 w
 have aE:∀ w,(isAgg 61).run Tryz.prog w=.ok true w:=Tryz.isAgg61
 have zE:∀ w,(Go.sizeOf 61).run Tryz.prog w=.ok k w:=fun w=>by rw [← hk22];exact Tryz.sizeOf61 w
 have hk0:¬ k7=0:=by omega
 obtain⟨sA,hsA⟩:∃ sA,mvS n.c.a n.c.len=sA:=⟨_,rfl⟩
 obtain⟨sB,hsB⟩:∃ sB,mvS n.c.b n.c.len=sB:=⟨_,rfl⟩
 have HA:Hid (∀ w',Calls Tryz.prog 86 #[.agg n.c.a.cells.toArray,.int .i64 n.c.len] w' fun e w''=>e=.returned (.agg sA.cells.toArray)∧Gr w' w''):=Lib.hid fun w'=>by
  have:=moved_any n.c.a n.c.len w' ha (by omega) (by omega)
  rw [hsA] at this
  exact this
 have HB:Hid (∀ w',Calls Tryz.prog 86 #[.agg n.c.b.cells.toArray,.int .i64 n.c.len] w' fun e w''=>e=.returned (.agg sB.cells.toArray)∧Gr w' w''):=Lib.hid fun w'=>by
  have:=moved_any n.c.b n.c.len w' hb (by omega) (by omega)
  rw [hsB] at this
  exact this
 obtain⟨Sh,hSh⟩:∃ Sh,shr n.c.kind=Sh:=⟨_,rfl⟩
 have HS:Hid (∀ w',Calls Tryz.prog 87 #[.int .i64 n.c.kind] w' fun e w''=>e=.returned (.bool Sh)∧Gr w' w''):=Lib.hid fun w'=>by
  have:=hasShare_any n.c.kind w'
  rw [hSh] at this
  exact this
 obtain⟨of,hof⟩:∃ of,(if Sh then n.c.off+n.c.len else n.c.off)=of:=⟨_,rfl⟩
 obtain⟨n4,hn4⟩:∃ n4:CM,n4=⟨nxt n.c m.c.len,n.cv⟩:=⟨_,rfl⟩
 have hc4:((n.src sA sB).cells.set 16 (.int .i64 of)).set 0 (.int .i64 m.c.len)=n4.cells:=by
  rw [hn4,← hof,← hsA,← hsB,← hSh]
  rfl
 have hcont:cont n.c m.c=(((n.c.kind == 0) && (m.c.kind == 0)) || decide (m.c=n4.c)):=by
  unfold cont
  rw [hn4]
  have h1:decide (n.c.kind=0∧m.c.kind=0)=((n.c.kind == 0) && (m.c.kind == 0)):=by
   by_cases h2:n.c.kind=0 <;> by_cases h3:m.c.kind=0 <;> simp [h2,h3]
  rw [h1]
  congr 1
  by_cases h:nxt n.c m.c.len=m.c
  ·rw [decide_eq_true h,decide_eq_true h.symm]
  ·rw [decide_eq_false h,decide_eq_false (fun e=>h e.symm)]
 have HE:Hid (∀ w',Gr w w'→Calls Tryz.prog 88 #[.agg m.cells.toArray,.agg n4.cells.toArray] w' fun e w''=>e=.returned (.bool (decide (m.c=n4.c)))∧Gr w' w''):=Lib.hid fun w' hg=>by
  refine equal_core 7 rfl m n4 w' (hm.gr hg) ?_ hl
  have:=hn.gr hg
  rw [hn4]
  exact this
 rw [hcont]
 obtain⟨Eq4,hEq4⟩:∃ Eq4,decide (m.c=n4.c)=Eq4:=⟨_,rfl⟩
 rw [hEq4] at HE ⊢
 have hone:=hn.one
 have hsl1:=src_a n sA
 have hsl2:=src_b n sA sB
 have hlen1:(n.src sA n.c.b).cells.length=22:=rfl
 have hlen2:(n.src sA sB).cells.length=22:=rfl
 have hlm:m.cells.length=k:=by rw [← hk22];rfl
 have hln:n.cells.length=k:=by rw [← hk22];rfl
 have hl4:n4.cells.length=k:=by rw [← hk22];rfl
 have hla:sA.cells.length=7:=rfl
 have hlb:sB.cells.length=7:=rfl
 have honea:=Sr.one sA
 have honeb:=Sr.one sB
 obtain⟨W2,hW2⟩:∃ W2,(w.alloc (.cells m.cells.toArray 61)).alloc (.cells n.cells.toArray 61)=W2:=⟨_,rfl⟩
 have hz2:W2.heap.size=w.heap.size+2:=by rw [← hW2];simp
 have hg2:Gr w W2:=by rw [← hW2];exact ((Gr.refl w).alloc _).alloc _
 have hbm:Blk W2 w.heap.size 61 m.cells:=by rw [← hW2];exact (Blk.new w m.cells 61).gr ((Gr.refl _).alloc _)
 have hbn:Blk W2 (w.heap.size+1) 61 n.cells:=by
  rw [← hW2]
  have:=Blk.new (w.alloc (.cells m.cells.toArray 61)) n.cells 61
  simpa using this
 have lq:Hid (∀ wx,Gr W2 wx→Sem.run Tryz.prog (loadCellsFrom ⟨w.heap.size+1,2,none⟩ 0 k7 #[]) wx=.ok n.c.a.cells.toArray wx∧Sem.run Tryz.prog (loadCellsFrom ⟨w.heap.size+1,9,none⟩ 0 k7 #[]) wx=.ok n.c.b.cells.toArray wx):=Lib.hid fun wx hgx=>box_src hk7 (hbn.gr hgx).cel
 have i0:n.cells[0]?=some (.int .i64 n.c.len):=rfl
 have i1:n.cells[1]?=some (.int .i64 n.c.kind):=rfl
 have j0:m.cells[0]?=some (.int .i64 m.c.len):=rfl
 have j1:m.cells[1]?=some (.int .i64 m.c.kind):=rfl
 have i16:(n.src sA sB).cells[16]?=some (.int .i64 n.c.off):=rfl
 have c16:(n.src sA sB).cells.set 16 (.int .i64 n.c.off)=(n.src sA sB).cells:=rfl
 have hone1:∀ v∈(n.src sA n.c.b).cells,v.oneCell'=true:=by
  rw [← hsl1]
  intro v hv
  rcases List.mem_append.1 hv with hv | hv
  ·rcases List.mem_append.1 hv with hv | hv
   ·exact hone v (List.mem_of_mem_take hv)
   ·exact honea v hv
  ·exact hone v (List.mem_of_mem_drop hv)
 unfold CM.val
 replace hk7:=Lib.hid hk7
 replace hk22:=Lib.hid hk22
 replace hsl1:=Lib.hid hsl1
 replace hsl2:=Lib.hid hsl2
 replace hla:=Lib.hid hla
 replace hlb:=Lib.hid hlb
 replace hW2:=Lib.hid hW2
 replace hz2:=Lib.hid hz2
 replace hc4:=Lib.hid hc4
 replace c16:=Lib.hid c16
 replace hof:=Lib.hid hof
 replace hlen1:=Lib.hid hlen1
 replace hlen2:=Lib.hid hlen2
 clear hsA hsB hSh hn4 hcont hEq4 hn hm ha hb hl
 generalize n.cells=ln at *
 generalize m.cells=lm at *
 generalize n4.cells=l4 at *
 generalize (n.src sA sB).cells=l2 at *
 generalize (n.src sA n.c.b).cells=l1 at *
 generalize sA.cells=la at *
 generalize sB.cells=lb at *
 generalize n.c.a.cells=ca at *
 generalize n.c.b.cells=cb at *
 generalize n.c.len=jn at *
 generalize n.c.off=on at *
 generalize n.c.kind=kn at *
 generalize m.c.kind=km at *
 generalize m.c.len=jm at *
 generalize hE1:(kn == 0)=E1 at *
 generalize hE2:(km == 0)=E2 at *
 go_enter Tryz.func60,Tryz.ntmps60
 go_upto_region 1 with fail
 rw [hW2.out]
 have x:=hbm.lt
 have x0:=(hbm.cel.2 0 _ j0).1
 have x1:=(hbm.cel.2 1 _ j1).1
 have y:=hbn.lt
 have y0:=(hbn.cel.2 0 _ i0).1
 have y1:=(hbn.cel.2 1 _ i1).1
 by_cases hE:E1=true∧E2=true
 ·obtain⟨rfl,rfl⟩:=hE
  go_wp2
  go_ret
  exact⟨rfl,hg2⟩
 ·have hEE:(E1 && E2)=false:=by
   cases E1 <;> cases E2 <;> simp_all
  replace hE:=Lib.hid hE
  replace hEE:=Lib.hid hEE
  go_cut [13] (fun vb wx=>vb=.bool false∧wx=W2)
  case first=>as_aux_lemma=>
   cases E1 <;> cases E2
   ·go_wp2;go_meet;exact⟨rfl,rfl⟩
   ·go_wp2;go_meet;exact⟨rfl,rfl⟩
   ·go_wp2;go_meet;exact⟨rfl,rfl⟩
   ·exact absurd ⟨rfl,rfl⟩ hE.out
  case rest=>as_aux_lemma=>
   obtain⟨rfl,rfl⟩:=hcut
   have la0:=ld_blk (P:=Tryz.prog) hln hbn
   have st0:Sem.run Tryz.prog (storeCells ⟨wc.heap.size,0,none⟩ ln 0) (wc.alloc (.cells #[.int .i64 0,.int .i64 0,.int .i64 0,.string ⟨#[]⟩,.int .i64 0,.int .i64 0,.int .i64 0,.int .i64 0,.bool false,.int .i64 0,.string ⟨#[]⟩,.int .i64 0,.int .i64 0,.int .i64 0,.int .i64 0,.bool false,.int .i64 0,.int .i64 0,.int .i64 0,.string ⟨#[]⟩,.int .i64 0,.slice none 0 0] 61))=.ok () (wc.alloc (.cells ln.toArray 61)):=st_new wc _ _ ln (by rw [hln,← hk22.out];exact infoClip) (by rw [hln,← hk22.out];rfl) hone
   have hbm3:=hbm.gr ((Gr.refl wc).alloc (.cells ln.toArray 61))
   have hbn3:=hbn.gr ((Gr.refl wc).alloc (.cells ln.toArray 61))
   have hby3:Blk (wc.alloc (.cells ln.toArray 61)) wc.heap.size 61 ln:=Blk.new wc ln 61
   have hgA:Gr w (wc.alloc (.cells ln.toArray 61)):=hg2.alloc _
   have lqa:=Lib.hid fun (x:GW (wc.alloc (.cells ln.toArray 61)))=>lq.out x.w (((Gr.refl wc).alloc _).trans x.h)
   go_upto_region 4 with fail
   obtain⟨Y,hY⟩:∃ Y,wc.heap.size=Y:=⟨_,rfl⟩
   have hz3:=hz2.out
   rw [hY] at hby3 hz3 ⊢
   have hY1:w.heap.size≠Y:=by omega
   have hY2:w.heap.size+1≠Y:=by omega
   have hY3:w.heap.size≤Y:=by omega
   clear la0 st0 x x0 x1 y y0 y1 hY hz3 lq hbm hbn hg2 hz2 hW2 hE
   generalize wc.alloc (.cells ln.toArray 61)=W3 at *
   have x:=hbm3.lt
   have y:=hbn3.lt
   have y0:=(hbn3.cel.2 0 _ i0).1
   have z:=hby3.lt
   have la2:=fun x:GW W3=>(lqa.out x).1
   have la9:=fun x:GW W3=>(lqa.out x).2
   refine wp_region_gr_tail 11 (by kernel_rfl) (by kernel_rfl) (fun hq1 hq2=>?_)
   simp only [List.take_succ_cons,List.take_zero,List.drop_succ_cons,List.drop_zero]
   repeat (first | go_big_quiet_skip | (go_big_quiet_want;go_big_quiet_op;first | go_big_quiet_on | (apply Exists.intro;refine⟨fun _=>?_,?_⟩;(· ((go_at_call 86;first | (with_reducible exact gr_call (HA.out _)) | (with_reducible exact gr_call (HB.out _)))));go_big_quiet_on)))
   refine wpQuiet_nil ?_
   clear hq1 hq2
   rintro w1 ⟨⟨_,hg1⟩,rfl⟩
   obtain⟨hc1,hf1⟩:=hg1.cells
   have hz1:=hg1.size
   (try simp at hz1);(try have hl1_0_0:w.heap.size<w1.heap.size:=by omega);(try have hm1_0_0:w.heap.size≤w1.heap.size:=by omega);(try have hl1_0_1:w.heap.size+1<w1.heap.size:=by omega);(try have hl1_0_2:w.heap.size+2<w1.heap.size:=by omega)
   have hbm4:=hbm3.gr hg1
   have hbn4:=hbn3.gr hg1
   have hby4:=hby3.gr hg1
   have hg4:=hgA.trans hg1
   clear hbm3 hbn3 hby3 x y y0 z la2 la9 lqa hgA
   have st1:(storeCells ⟨Y,2,none⟩ la 0).run Tryz.prog w1=.ok () (w1.setRow Y l1.toArray):=by
    have:=st_part (P:=Tryz.prog) (o:=2) hby4 (by rw [hln,hla.out,← hk22.out];omega) honea
    rw [hsl1.out] at this
    exact this
   have hby5:=hby4.setRow l1
   have st2:(storeCells ⟨Y,9,none⟩ lb 0).run Tryz.prog (w1.setRow Y l1.toArray)=.ok () ((w1.setRow Y l1.toArray).setRow Y l2.toArray):=by
    have:=st_part (P:=Tryz.prog) (o:=9) hby5 (by rw [hlen1.out,hlb.out];omega) honeb
    rw [hsl2.out] at this
    exact this
   have hby6:=hby5.setRow l2
   have hbm6:=(hbm4.setRow_other hY1 l1.toArray).setRow_other hY1 l2.toArray
   have hbn6:=(hbn4.setRow_other hY2 l1.toArray).setRow_other hY2 l2.toArray
   have hg6:=(hg4.setRow (g:=Y) hY3 l1.toArray).setRow (g:=Y) hY3 l2.toArray
   have hlak:la.length=k7:=by rw [hla.out,hk7.out]
   have hlbk:lb.length=k7:=by rw [hlb.out,hk7.out]
   go_upto_region 5 with fail
   clear st1 st2 hby5 hby4 hbm4 hbn4 hg4 hc1 hf1 hz1 hg1
   generalize (w1.setRow Y l1.toArray).setRow Y l2.toArray=W6 at *
   have y:=hbn6.lt
   have y1:=(hbn6.cel.2 1 _ i1).1
   go_upto_if 29 with ((go_at_call 87;(with_reducible refine (HS.out _).mono ?_);rintro e w7 ⟨rfl,hg7⟩))
   have hbm7:=hbm6.gr hg7
   have hbn7:=hbn6.gr hg7
   have hby7:=(hby6.gr hg7).cel
   have hg8:=hg6.trans hg7
   clear y y1 hg7 hg6 hbm6 hbn6 hby6
   have x:=hbm7.lt
   have x0:=(hbm7.cel.2 0 _ j0).1
   have y:=hbn7.lt
   have y0:=(hbn7.cel.2 0 _ i0).1
   have z:=hby7.lt
   have hl2:=hlen2.out
   obtain⟨q0,hq0⟩:∃ q0,l2[0]?=some q0:=⟨l2[0]'(by omega),by simp⟩
   obtain⟨z16,f16⟩:=hby7.2 16 _ i16
   obtain⟨z0,f0⟩:=hby7.2 0 _ hq0
   cases Sh with
   | true=>
    have hof2:on+jn=of:=by have:=hof.out;simpa using this
    have hU:=(hby7.set (k:=16) (by omega) (.int .i64 (on+jn))).set (k:=0) (by rw [List.length_set];omega) (.int .i64 jm)
    have hbmU:=(hbm7.other (p:=⟨Y,16,none⟩) (fun e=>hY1 e.symm) (.int .i64 (on+jn))).other (p:=⟨Y,0,none⟩) (fun e=>hY1 e.symm) (.int .i64 jm)
    have hgU:=(hg8.setCell (p:=⟨Y,16,none⟩) hY3 (.int .i64 (on+jn))).setCell (p:=⟨Y,0,none⟩) hY3 (.int .i64 jm)
    rw [hof2,hc4.out] at hU
    rw [hof2] at hbmU hgU
    replace hof2:=Lib.hid hof2
    go_upto_region 8 with fail
    rw [hof2.out]
    clear x x0 y y0 z z16 f16 z0 f0 hbm7 hbn7 hby7 hg8
    generalize (w7.setCell ⟨Y,16,none⟩ (.int .i64 of)).setCell ⟨Y,0,none⟩ (.int .i64 jm)=U at *
    have lm1:=ld_blk (P:=Tryz.prog) hlm hbmU
    have lm2:=ld_cel (P:=Tryz.prog) hl4 hU
    go_wp2_with (go_at_call 88;(with_reducible refine (HE.out _ hgU).mono ?_);rintro e w9 ⟨rfl,hg9⟩)
    go_ret
    exact⟨by rw [hEE.out,Bool.false_or];rfl,hgU.trans hg9⟩
   | false=>
    have hof2:on=of:=by have:=hof.out;simpa using this
    have hU:=hby7.set (k:=0) (by omega) (.int .i64 jm)
    have hbmU:=hbm7.other (p:=⟨Y,0,none⟩) (fun e=>hY1 e.symm) (.int .i64 jm)
    have hgU:=hg8.setCell (p:=⟨Y,0,none⟩) hY3 (.int .i64 jm)
    have hc5:l2.set 0 (.int .i64 jm)=l4:=by rw [← hc4.out,← hof2,c16.out]
    rw [hc5] at hU
    replace hof2:=Lib.hid hof2
    go_upto_region 8 with fail
    clear x x0 y y0 z z16 f16 z0 f0 hbm7 hbn7 hby7 hg8
    generalize w7.setCell ⟨Y,0,none⟩ (.int .i64 jm)=U at *
    have lm1:=ld_blk (P:=Tryz.prog) hlm hbmU
    have lm2:=ld_cel (P:=Tryz.prog) hl4 hU
    go_wp2_with (go_at_call 88;(with_reducible refine (HE.out _ hgU).mono ?_);rintro e w9 ⟨rfl,hg9⟩)
    go_ret
    exact⟨by rw [hEE.out,Bool.false_or];rfl,hgU.trans hg9⟩
theorem continues_any (m n:CM) (w:World) (hm:ChR w m) (hn:ChR w n) (hl:m.c.ch.length≤4) (hv:VC n.c) :
  Calls Tryz.prog 60 #[m.val,n.val] w fun e w'=>e=.returned (.bool (cont n.c m.c))∧Gr w w':=by
 have h1:=hv.len
 have h2:0≤n.c.off∧n.c.off≤2147483647:=by
  rcases hv.kd with h | h | h | h | h | h <;> omega
 exact continues_core 22 7 rfl rfl m n w hm hn (by omega) hv.a hv.b (by omega) (by omega) (by omega) (by omega)
end Go.Proofs.YtnginfangeikpaaGreatDoor
