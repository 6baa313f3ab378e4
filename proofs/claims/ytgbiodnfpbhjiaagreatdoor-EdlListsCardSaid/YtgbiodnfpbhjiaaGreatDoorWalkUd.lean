/-
  Contracts of Gcd, within, Base and Moved of the reference's layer 23.
  Conditions: the source is valid; the numbers are small.
-/
import Derived.Test.YtgbiodnfpbhjiaaGreatDoorWalkTm
import Derived.Test.YtgbiodnfpbhjiaaGreatDoorKit
namespace Go.Proofs.YtgbiodnfpbhjiaaGreatDoor
open Go.RowKit Go.Lib
set_option linter.unusedSimpArgs false
set_option linter.unusedVariables false
set_option maxHeartbeats 1000000 in
theorem rgcd23_any (x y:Int) (w:World) (hx:-9223372036854775807≤x∧x≤9223372036854775807) (hy:0≤y∧y≤9223372036854775807) :
  Calls Tryz.prog 74 #[.int .i64 x,.int .i64 y] w fun e w'=>e=.returned (.int .i64 (gc x y))∧Gr w w':=by
 have hm1:=mg_nonneg x
 have hm2:mg x≤9223372036854775807:=by unfold mg;split <;> omega
 have hX:(x<0→-x=mg x)∧(¬ x<0→x=mg x):=by unfold mg;constructor <;> intro h <;> split <;> omega
 rw [← gc_mg x y]
 generalize mg x=X at *
 replace hX:=Lib.hid hX
 go_enter Tryz.func74,Tryz.ntmps74
 go_upto_if 6 with fail
 go_cut [0] (fun a wx=>a=.int .i64 X∧wx=w)
 case first=>as_aux_lemma=>
  by_cases h:x<0
  ·have q:decide (x<0)=true:=decide_eq_true h
   have e:=Lib.hid (hX.out.1 h)
   go_wp2
   go_meet
   exact⟨by rw [e.out],rfl⟩
  ·have q:decide (x<0)=false:=decide_eq_false h
   have e:=Lib.hid (hX.out.2 h)
   go_wp2
   go_meet
   exact⟨by rw [e.out],rfl⟩
 case rest=>as_aux_lemma=>
  obtain⟨rfl,rfl⟩:=hcut
  go_wp2
  go_loopw [0,1] (fun a b wr=>∃ p q:Int,0≤p∧p≤9223372036854775807∧0≤q∧q≤9223372036854775807∧a=.int .i64 p∧b=.int .i64 q∧Hid (gc p q=gc X y)∧Gr wc wr) (fun _ b _=>(RowKit.intOf b).toNat)
  case atStart=>exact⟨X,y,hm1,hm2,hy.1,hy.2,rfl,rfl,Lib.hid rfl,Gr.refl _⟩
  case round=>
   obtain⟨p,q,hp,hp2,hq,hq2,rfl,rfl,hg,hgr⟩:=hrel
   by_cases h0:q=0
   ·subst h0
    go_wp2
    go_ret
    exact⟨ret_int (by rw [← hg.out,gc_zero _ hp]),hgr⟩
   ·have hb:(q != 0)=true:=by simpa using h0
    have hm1:0≤p.tmod q:=Int.tmod_nonneg q hp
    have hm2:p.tmod q<q:=Int.tmod_lt_of_pos p (by omega)
    have hm3:p.tmod q=p % q:=Int.tmod_eq_emod_of_nonneg hp
    go_wp2
    go_region
    go_wp2
    have hno:=Lib.hid ((gc_step p q hp hq).trans hg.out)
    refine⟨⟨q,p % q,hq,hq2,by omega,by omega,rfl,rfl,hno,hgr.drew⟩,by simp [RowKit.intOf];omega⟩
def wiB (n d m:Int):Bool:=decide (mg n / d<m) || (decide (mg n / d=m) && decide (mg n % d=0))
set_option maxRecDepth 20000 in
set_option maxHeartbeats 1000000 in
theorem rwithin_any (n d m:Int) (w:World) (hn:-9223372036854775807≤n∧n≤9223372036854775807) (hd:1≤d∧d≤9223372036854775807) :
  Calls Tryz.prog 98 #[.agg #[.int .i64 n,.int .i64 d],.int .i64 m] w fun e w'=>e=.returned (.bool (wiB n d m))∧Gr w w':=by
 have hbx:Cel (w.alloc (.cells #[.int .i64 n,.int .i64 d] 77)) w.heap.size [.int .i64 n,.int .i64 d]:=Cel.new w #[.int .i64 n,.int .i64 d] 77
 have hgA:Gr w (w.alloc (.cells #[.int .i64 n,.int .i64 d] 77)):=(Gr.refl w).alloc _
 have y:=hbx.two
 have hm1:=mg_nonneg n
 have hm2:mg n≤9223372036854775807:=by unfold mg;split <;> omega
 have hX:(n<0→-n=mg n)∧(¬ n<0→n=mg n):=by unfold mg;constructor <;> intro h <;> split <;> omega
 unfold wiB
 generalize mg n=N at *
 have d0:¬ d=0:=by omega
 have e1:N.tdiv d=N / d:=Int.tdiv_eq_ediv_of_nonneg hm1
 have e2:N.tmod d=N % d:=Int.tmod_eq_emod_of_nonneg hm1
 have b1:0≤N / d:=Int.ediv_nonneg hm1 (by omega)
 have b2:N / d≤N:=Int.ediv_le_self _ hm1
 have b3:0≤N % d:=Int.emod_nonneg _ d0
 have b4:N % d<d:=Int.emod_lt_of_pos _ (by omega)
 generalize N / d=Q at *
 generalize N % d=R at *
 obtain⟨K,hK⟩:∃ K,(decide (Q<m) || (decide (Q=m) && decide (R=0)))=K:=⟨_,rfl⟩
 rw [hK]
 replace hX:=Lib.hid hX
 replace hK:=Lib.hid hK
 go_enter Tryz.func98,Tryz.ntmps98
 go_upto_if 9 with fail
 generalize w.alloc (.cells #[.int .i64 n,.int .i64 d] 77)=W at *
 go_cut [5] (fun a wx=>a=.int .i64 N∧wx=W)
 case first=>as_aux_lemma=>
  by_cases h:n<0
  ·have q:decide (n<0)=true:=decide_eq_true h
   have e:=Lib.hid (hX.out.1 h)
   go_wp2
   go_meet
   exact⟨by rw [e.out],rfl⟩
  ·have q:decide (n<0)=false:=decide_eq_false h
   have e:=Lib.hid (hX.out.2 h)
   go_wp2
   go_meet
   exact⟨by rw [e.out],rfl⟩
 case rest=>as_aux_lemma=>
  obtain⟨rfl,rfl⟩:=hcut
  by_cases c1:Q<m
  ·have q1:decide (Q<m)=true:=decide_eq_true c1
   have hk:=hK.out
   rw [q1] at hk
   replace hk:=Lib.hid hk
   go_wp2
   go_ret
   exact⟨by rw [← hk.out];rfl,hgA⟩
  ·have q1:decide (Q<m)=false:=decide_eq_false c1
   have hk:=hK.out
   rw [q1,Bool.false_or] at hk
   by_cases c2:Q=m
   ·have q2:(Q == m)=true:=by simp [c2]
    rw [decide_eq_true c2,Bool.true_and] at hk
    replace c2:=Lib.hid c2
    by_cases c3:R=0
    ·have q3:(R == 0)=true:=by simp [c3]
     rw [decide_eq_true c3] at hk
     replace c3:=Lib.hid c3
     replace hk:=Lib.hid hk
     go_wp2
     go_ret
     exact⟨by rw [← hk.out];rfl,hgA⟩
    ·have q3:(R == 0)=false:=by simp [c3]
     rw [decide_eq_false c3] at hk
     replace hk:=Lib.hid hk
     go_wp2
     go_ret
     exact⟨by rw [← hk.out];rfl,hgA⟩
   ·have q2:(Q == m)=false:=by simp [c2]
    rw [decide_eq_false c2,Bool.false_and] at hk
    replace hk:=Lib.hid hk
    go_wp2
    go_ret
    exact⟨by rw [← hk.out];rfl,hgA⟩
set_option maxRecDepth 20000 in
set_option maxHeartbeats 4000000 in
theorem rbase_any (s:Sr) (w:World) (h:VS s):Calls Tryz.prog 97 #[s.val] w fun e w'=>e=.returned (.int .i64 (bsS s))∧Gr w w':=by
 obtain⟨a1,_,_⟩:=vB_inv h.a
 obtain⟨d1,_,_⟩:=vB_inv h.sp
 have a2:=h.a1
 have d2:=h.s1
 have hb:=h.b
 have hbx:Blk (w.alloc (.cells s.cells.toArray 79)) w.heap.size 79 s.cells:=Blk.new w s.cells 79
 have hgA:Gr w (w.alloc (.cells s.cells.toArray 79)):=(Gr.refl w).alloc _
 have l3:s.cells[3]?=some (.int .i64 s.ad):=rfl
 have l5:s.cells[5]?=some (.int .i64 s.sd):=rfl
 have HG:Hid (∀ w',Calls Tryz.prog 74 #[.int .i64 s.ad,.int .i64 s.sd] w' fun e w''=>e=.returned (.int .i64 (gc s.ad s.sd))∧Gr w' w''):=Lib.hid fun w'=>rgcd23_any s.ad s.sd w' (by omega) (by omega)
 have g1:=gc_pos_left s.ad s.sd (by omega)
 have hbd:bsS s=s.ad / gc s.ad s.sd * s.sd:=rfl
 rw [hbd] at hb ⊢
 rw [show s.val=.agg s.cells.toArray from rfl]
 generalize gc s.ad s.sd=G at *
 have x1:s.ad.tdiv G=s.ad / G:=Int.tdiv_eq_ediv_of_nonneg (by omega)
 have x2:0≤s.ad / G:=Int.ediv_nonneg (by omega) (by omega)
 have x3:s.ad / G≤s.ad:=Int.ediv_le_self _ (by omega)
 have G0:¬ G=0:=by omega
 have D0:¬ s.sd=0:=by omega
 have z1:(4294967296:Int).tdiv s.sd=4294967296 / s.sd:=Int.tdiv_eq_ediv_of_nonneg (by omega)
 have z2:s.ad / G≤4294967296 / s.sd:=by
  refine (Int.le_ediv_iff_mul_le (by omega)).2 ?_
  omega
 have z3:4294967296 / s.sd≤4294967296:=Int.ediv_le_self _ (by omega)
 have z4:0≤s.ad / G * s.sd:=Int.mul_nonneg x2 (by omega)
 clear hbd h
 generalize s.ad / G=α at *
 generalize (4294967296:Int) / s.sd=L at *
 generalize s.cells=l at *
 generalize s.ad=ad at *
 generalize s.sd=sd at *
 have q1:decide (4294967296<ad)=false:=decide_eq_false (by omega)
 have q2:decide (4294967296<sd)=false:=decide_eq_false (by omega)
 have q3:decide (L<α)=false:=decide_eq_false (by omega)
 have y0:=hbx.lt
 have y3:=(hbx.cel.2 3 _ l3).1
 have y5:=(hbx.cel.2 5 _ l5).1
 go_enter Tryz.func97,Tryz.ntmps97
 go_upto_region 3 with fail
 generalize w.alloc (.cells l.toArray 79)=W at *
 refine wp_region_gr (by kernel_rfl) (by kernel_rfl) (fun hq1 hq2=>?_)
 repeat (first | go_big_quiet_skip | (go_big_quiet_want;go_big_quiet_op;first | go_big_quiet_on | (apply Exists.intro;refine⟨fun _=>?_,?_⟩;(· ((go_at_call 74;exact gr_call (HG.out _))));go_big_quiet_on)))
 refine wpQuiet_nil ?_
 clear hq1 hq2
 rintro w1 ⟨⟨_,hg1⟩,rfl⟩
 obtain⟨hc1,hf1⟩:=hg1.cells
 have hz1:=hg1.size
 (try simp at hz1);(try have hl1_0_0:w.heap.size<w1.heap.size:=by omega);(try have hm1_0_0:w.heap.size≤w1.heap.size:=by omega);(try have hl1_0_1:w.heap.size+1<w1.heap.size:=by omega);(try have hl1_0_2:w.heap.size+2<w1.heap.size:=by omega)
 have hb1:=hbx.gr hg1
 clear y0 y3 y5
 have y0:=hb1.lt
 have y3:=(hb1.cel.2 3 _ l3).1
 have y5:=(hb1.cel.2 5 _ l5).1
 go_wp2
 go_ret
 exact⟨rfl,hgA.trans hg1⟩
theorem dvd_quot {g x:Int} (hg:0<g) (h:g ∣ x):∃ q,x / g=q∧x=g * q:=by
 obtain⟨q,rfl⟩:=h
 exact⟨q,Int.mul_ediv_cancel_left _ (by omega),rfl⟩
def mvOk (s:Sr) (n:Int):Bool:=decide (s=blkS) || wiB (mvS s n).an (mvS s n).ad 1099511627776
set_option maxRecDepth 20000 in
set_option maxHeartbeats 4000000 in
theorem rmoved_core (k7:Nat) (hk7:7=k7) (s:Sr) (n:Int) (w:World) (h:vSr s) (n0:-4294967296≤n) (n1:n≤4294967296) :
  Calls Tryz.prog 56 #[s.val,.int .i64 n] w fun e w'=>e=.returned (.tuple #[(mvS s n).val,.bool (mvOk s n)])∧Gr w w':=by
 have aE7:∀ w,(isAgg 79).run Tryz.prog w=.ok true w:=Tryz.isAgg79
 have zE7:∀ w,(Go.sizeOf 79).run Tryz.prog w=.ok k7 w:=fun w=>by rw [← hk7];exact Tryz.sizeOf79 w
 have hk0:¬ k7=0:=by omega
 have HB:Hid (∀ w',Calls Tryz.prog 57 #[.agg s.cells.toArray] w' fun e w''=>e=.returned (.bool (decide (s=blkS)))∧Gr w' w''):=Lib.hid fun w'=>rblack_any s w'
 have hone:=Sr.one s
 have hgA:Gr w ((w.alloc (.cells s.cells.toArray 79)).alloc (.cells #[.int .i64 0,.string ⟨#[]⟩,.int .i64 0,.int .i64 0,.int .i64 0,.int .i64 0,.bool false] 79)):=((Gr.refl w).alloc _).alloc _
 have hb0:Blk ((w.alloc (.cells s.cells.toArray 79)).alloc (.cells #[.int .i64 0,.string ⟨#[]⟩,.int .i64 0,.int .i64 0,.int .i64 0,.int .i64 0,.bool false] 79)) w.heap.size 79 s.cells:=(Blk.new w s.cells 79).gr ((Gr.refl _).alloc _)
 have hb1:Blk ((w.alloc (.cells s.cells.toArray 79)).alloc (.cells #[.int .i64 0,.string ⟨#[]⟩,.int .i64 0,.int .i64 0,.int .i64 0,.int .i64 0,.bool false] 79)) (w.heap.size+1) 79 [.int .i64 0,.string ⟨#[]⟩,.int .i64 0,.int .i64 0,.int .i64 0,.int .i64 0,.bool false]:=by
  have:=Blk.new (w.alloc (.cells s.cells.toArray 79)) [.int .i64 0,.string ⟨#[]⟩,.int .i64 0,.int .i64 0,.int .i64 0,.int .i64 0,.bool false] 79
  simpa using this
 have hlk:s.cells.length=k7:=by rw [← hk7];rfl
 rw [show s.val=.agg s.cells.toArray from rfl]
 have lb:=ld_blk (P:=Tryz.prog) hlk hb0
 replace hk7:=Lib.hid hk7
 rcases h with h | h
 ·rw [decide_eq_true h] at HB
  rw [show mvOk s n=true by unfold mvOk;rw [decide_eq_true h];rfl,show mvS s n=s by rw [h,mvS_blk],show s.val=.agg s.cells.toArray from rfl]
  generalize s.cells=l at *
  go_enter Tryz.func56,Tryz.ntmps56
  go_wp2_with (go_at_call 57;(with_reducible refine (HB.out _).mono ?_);rintro e w1 ⟨rfl,hg1⟩;have hb01:=hb0.gr hg1;have hb11:=hb1.gr hg1;have lb1:=ld_blk (P:=Tryz.prog) hlk hb01;have st1:=st_blk (P:=Tryz.prog) hb11 (by rw [hlk,← hk7.out];rfl) hone;have hb2:=hb11.setRow l;have lc:=ld_blk (P:=Tryz.prog) hlk hb2;have hgC:=(hgA.trans hg1).setRow (g:=w.heap.size+1) (by omega) l.toArray)
  simp [bodyPost,results,Tryz.results56,go_sem,aE7,zE7,lc]
  exact hgC
 ·rw [decide_eq_false h.ne] at HB
  obtain⟨b1,b2,b3,b4,b5,b6,b7,b8,b9,b10⟩:=mv_base h n
  obtain⟨z1,z2,z3,z4⟩:=mv_num h n0 n1
  obtain⟨_,f2,f3⟩:=mv_fit h n0 n1
  have HS:Hid (∀ w',Calls Tryz.prog 97 #[.agg s.cells.toArray] w' fun e w''=>e=.returned (.int .i64 (bsS s))∧Gr w' w''):=Lib.hid fun w'=>rbase_any s w' h
  have hmv:(mvS s n).val=.agg ((s.cells.set 2 (.int .i64 (rN (mvX s n) (mvY s)))).set 3 (.int .i64 (rD (mvX s n) (mvY s)))).toArray:=by
   rw [mvS_yes h.ne]
   rfl
  have hok:mvOk s n=wiB (rN (mvX s n) (mvY s)) (rD (mvX s n) (mvY s)) 1099511627776:=by
   unfold mvOk
   rw [decide_eq_false h.ne,Bool.false_or,mvS_yes h.ne]
   rfl
  obtain⟨a1,_,_⟩:=vB_inv h.a
  obtain⟨d1,_,_⟩:=vB_inv h.sp
  have a2:=h.a1
  have d2:=h.s1
  have s2:=h.s2
  have a3:=h.a2
  rw [hmv,hok,f2,f3]
  have l2:s.cells[2]?=some (.int .i64 s.an):=rfl
  have l3:s.cells[3]?=some (.int .i64 s.ad):=rfl
  have l4:s.cells[4]?=some (.int .i64 s.sn):=rfl
  have l5:s.cells[5]?=some (.int .i64 s.sd):=rfl
  clear hmv hok f2 f3 b3 b4 h
  have m1:-(4294967296 * 67108864)≤n * s.sn∧n * s.sn≤4294967296 * 67108864:=abs_mul_le n0 n1 (B:=67108864) (by omega) (by omega) (by omega) (by omega)
  have t1:(bsS s).tdiv s.ad=bsS s / s.ad:=Int.tdiv_eq_ediv_of_nonneg (by omega)
  have t2:(bsS s).tdiv s.sd=bsS s / s.sd:=Int.tdiv_eq_ediv_of_nonneg (by omega)
  have A0:¬ s.ad=0:=by omega
  have D0:¬ s.sd=0:=by omega
  clear b9 b10 s2 a3
  generalize bsS s / s.ad=β at *
  generalize bsS s / s.sd=σ at *
  obtain⟨Z,hZ⟩:∃ Z,s.an * β+n * s.sn * σ=Z:=⟨_,rfl⟩
  rw [hZ]
  have hZb:-9223372036854775807≤Z∧Z≤9223372036854775807:=by omega
  generalize bsS s=B at *
  have HG:Hid (∀ w',Calls Tryz.prog 74 #[.int .i64 Z,.int .i64 B] w' fun e w''=>e=.returned (.int .i64 (gc Z B))∧Gr w' w''):=Lib.hid fun w'=>rgcd23_any Z B w' hZb (by omega)
  have G1:=gc_pos_right Z B (by omega)
  have hdv1:Z.tdiv (gc Z B)=Z / gc Z B:=Int.tdiv_eq_ediv_of_dvd (gc_dvd_left Z B)
  have hdv2:B.tdiv (gc Z B)=B / gc Z B:=Int.tdiv_eq_ediv_of_nonneg (by omega)
  have hq1:1≤B / gc Z B:=by
   obtain⟨q,hq,e⟩:=dvd_quot G1 (gc_dvd_right Z B)
   rw [hq]
   by_cases hq0:1≤q
   ·exact hq0
   ·have:gc Z B * q≤0:=Int.mul_nonpos_of_nonneg_of_nonpos (by omega) (by omega)
    omega
  have hq2:B / gc Z B≤B:=Int.ediv_le_self _ (by omega)
  have hq3:-9223372036854775807≤Z / gc Z B∧Z / gc Z B≤9223372036854775807:=by
   obtain⟨q,hq,e⟩:=dvd_quot G1 (gc_dvd_left Z B)
   rw [hq]
   have e2:Z.natAbs=(gc Z B).natAbs * q.natAbs:=by
    rw [← Int.natAbs_mul,← e]
   have e3:q.natAbs≤(gc Z B).natAbs * q.natAbs:=Nat.le_mul_of_pos_left _ (by omega)
   omega
  have G0:¬ gc Z B=0:=by omega
  generalize gc Z B=g at *
  generalize Z / g=xn at *
  generalize B / g=xd at *
  have HW:Hid (∀ w',Calls Tryz.prog 98 #[.agg #[.int .i64 xn,.int .i64 xd],.int .i64 1099511627776] w' fun e w''=>e=.returned (.bool (wiB xn xd 1099511627776))∧Gr w' w''):=Lib.hid fun w'=>rwithin_any xn xd _ w' hq3 (by omega)
  generalize wiB xn xd 1099511627776=K at *
  generalize s.cells=l at *
  generalize s.an=an at *
  generalize s.ad=ad at *
  generalize s.sn=sn at *
  generalize s.sd=sd at *
  go_enter Tryz.func56,Tryz.ntmps56
  go_upto_region 4 with (first
   | (go_at_call 57;(with_reducible refine (HB.out _).mono ?_);rintro e w1 ⟨rfl,hg1⟩;have hb01:=hb0.gr hg1;have lb1:=ld_blk (P:=Tryz.prog) hlk hb01)
   | (go_at_call 97;(with_reducible refine (HS.out _).mono ?_);rintro e w2 ⟨rfl,hg2⟩))
  have hb02:=hb01.gr hg2
  have hb12:=(hb1.gr hg1).gr hg2
  have hgB:=(hgA.trans hg1).trans hg2
  clear hb0 hb1 hb01 hgA hg1 hg2 lb lb1 HB HS
  have y0:=hb02.lt
  have y2:=(hb02.cel.2 2 _ l2).1
  have y3:=(hb02.cel.2 3 _ l3).1
  have y4:=(hb02.cel.2 4 _ l4).1
  have y5:=(hb02.cel.2 5 _ l5).1
  refine wp_region_gr (by kernel_rfl) (by kernel_rfl) (fun hq1 hq2=>?_)
  repeat (first | go_big_quiet_skip | (go_big_quiet_want;go_big_quiet_op;first | go_big_quiet_on | (apply Exists.intro;refine⟨fun _=>?_,?_⟩;(· (fail));go_big_quiet_on)))
  refine wpQuiet_nil ?_
  clear hq1 hq2
  rintro w3 ⟨⟨_,hg3⟩,rfl⟩
  obtain⟨hc3,hf3⟩:=hg3.cells
  have hz3:=hg3.size
  (try simp at hz3);(try have hl3_0_0:w.heap.size<w3.heap.size:=by omega);(try have hm3_0_0:w.heap.size≤w3.heap.size:=by omega);(try have hl3_0_1:w.heap.size+1<w3.heap.size:=by omega);(try have hl3_0_2:w.heap.size+2<w3.heap.size:=by omega);(try have hl3_1_0:w1.heap.size<w3.heap.size:=by omega);(try have hm3_1_0:w1.heap.size≤w3.heap.size:=by omega);(try have hl3_1_1:w1.heap.size+1<w3.heap.size:=by omega);(try have hl3_1_2:w1.heap.size+2<w3.heap.size:=by omega);(try have hl3_2_0:w2.heap.size<w3.heap.size:=by omega);(try have hm3_2_0:w2.heap.size≤w3.heap.size:=by omega);(try have hl3_2_1:w2.heap.size+1<w3.heap.size:=by omega);(try have hl3_2_2:w2.heap.size+2<w3.heap.size:=by omega)
  go_upto_region 6 with (go_at_call 74;(with_reducible refine (HG.out _).mono ?_);rintro e w4 ⟨rfl,hg4⟩)
  have hb04:=(hb02.gr hg3).gr hg4
  have hb14:=(hb12.gr hg3).gr hg4
  have hgD:=(hgB.trans hg3).trans hg4
  clear hb02 hb12 hgB hg3 hg4 HG y0 y2 y3 y4 y5
  have y0:=hb04.lt
  obtain⟨y2,f2⟩:=hb04.cel.2 2 _ l2
  obtain⟨y3,f3⟩:=hb04.cel.2 3 _ l3
  refine wp_region_gr_tail 8 (by kernel_rfl) (by kernel_rfl) (fun hq1 hq2=>?_)
  simp only [List.take_succ_cons,List.take_zero,List.drop_succ_cons,List.drop_zero]
  repeat (first | go_big_quiet_skip | (go_big_quiet_want;go_big_quiet_op;first | go_big_quiet_on | (apply Exists.intro;refine⟨fun _=>?_,?_⟩;(· (fail));go_big_quiet_on)))
  refine wpQuiet_nil ?_
  clear hq1 hq2
  rintro w1 ⟨⟨_,hg1⟩,rfl⟩
  obtain⟨hc1,hf1⟩:=hg1.cells
  have hz1:=hg1.size
  (try simp at hz1);(try have hl1_0_0:w.heap.size<w1.heap.size:=by omega);(try have hm1_0_0:w.heap.size≤w1.heap.size:=by omega);(try have hl1_0_1:w.heap.size+1<w1.heap.size:=by omega);(try have hl1_0_2:w.heap.size+2<w1.heap.size:=by omega)
  go_upto_region 7 with fail
  have hbA:=((hb04.gr hg1).cel.set (k:=2) (by rw [hlk,← hk7.out];omega) (.int .i64 xn)).set (k:=3) (by rw [List.length_set,hlk,← hk7.out];omega) (.int .i64 xd)
  have hbB:=((hb14.gr hg1).other (p:=⟨w.heap.size,2,none⟩) (by show w.heap.size≠w.heap.size+1;omega) (.int .i64 xn)).other (p:=⟨w.heap.size,3,none⟩) (by show w.heap.size≠w.heap.size+1;omega) (.int .i64 xd)
  have hgE:=((hgD.trans hg1).setCell (p:=⟨w.heap.size,2,none⟩) (Nat.le_refl _) (.int .i64 xn)).setCell (p:=⟨w.heap.size,3,none⟩) (Nat.le_refl _) (.int .i64 xd)
  clear y0 y2 f2 y3 f3 hb04 hb14 hgD hg1 hz1 hc1 hf1
  generalize (w1.setCell ⟨w.heap.size,2,none⟩ (.int .i64 xn)).setCell ⟨w.heap.size,3,none⟩ (.int .i64 xd)=W3 at *
  have hone3:∀ v∈(l.set 2 (.int .i64 xn)).set 3 (.int .i64 xd),v.oneCell'=true:=fun v hv=>by
   rcases List.mem_or_eq_of_mem_set hv with hv | rfl
   ·rcases List.mem_or_eq_of_mem_set hv with hv | rfl
    ·exact hone v hv
    ·rfl
   ·rfl
  have hl3:((l.set 2 (.int .i64 xn)).set 3 (.int .i64 xd)).length=k7:=by simp [hlk]
  have e2:((l.set 2 (.int .i64 xn)).set 3 (.int .i64 xd))[2]?=some (.int .i64 xn):=by
   rw [List.getElem?_set_ne (by omega),List.getElem?_set_self (by rw [hlk,← hk7.out];omega)]
  have e3:((l.set 2 (.int .i64 xn)).set 3 (.int .i64 xd))[3]?=some (.int .i64 xd):=by
   rw [List.getElem?_set_self (by rw [List.length_set,hlk,← hk7.out];omega)]
  generalize hE:(l.set 2 (.int .i64 xn)).set 3 (.int .i64 xd)=l3 at *
  replace hE:=Lib.hid hE
  have y0:=hbA.lt
  have y2:=(hbA.2 2 _ e2).1
  have y3:=(hbA.2 3 _ e3).1
  have la:∀ x:GW W3,Sem.run Tryz.prog (loadCellsFrom ⟨w.heap.size,0,none⟩ 0 k7 #[]) x.w=.ok l3.toArray x.w:=fun x=>ld_cel hl3 (hbA.gr x.h)
  refine wp_region_gr_tail 4 (by kernel_rfl) (by kernel_rfl) (fun hq1 hq2=>?_)
  simp only [List.take_succ_cons,List.take_zero,List.drop_succ_cons,List.drop_zero]
  repeat (first | go_big_quiet_skip | (go_big_quiet_want;go_big_quiet_op;first | go_big_quiet_on | (apply Exists.intro;refine⟨fun _=>?_,?_⟩;(· ((go_at_call 98;exact gr_call (HW.out _))));go_big_quiet_on)))
  refine wpQuiet_nil ?_
  clear hq1 hq2
  rintro w1 ⟨⟨_,hg1⟩,rfl⟩
  obtain⟨hc1,hf1⟩:=hg1.cells
  have hz1:=hg1.size
  (try simp at hz1);(try have hl1_0_0:w.heap.size<w1.heap.size:=by omega);(try have hm1_0_0:w.heap.size≤w1.heap.size:=by omega);(try have hl1_0_1:w.heap.size+1<w1.heap.size:=by omega);(try have hl1_0_2:w.heap.size+2<w1.heap.size:=by omega)
  have hbC:=hbB.gr hg1
  have st:=st_blk (P:=Tryz.prog) hbC (by rw [hl3,← hk7.out];rfl) hone3
  have hb2:=hbC.setRow l3
  have ld:=ld_blk (P:=Tryz.prog) hl3 hb2
  have hgC:=(hgE.trans hg1).setRow (g:=w.heap.size+1) (by omega) l3.toArray
  go_wp2
  simp [bodyPost,results,Tryz.results56,go_sem,aE7,zE7,ld]
  exact⟨hE.out.symm,hgC⟩
theorem rmoved_any (s:Sr) (n:Int) (w:World) (h:vSr s) (n0:-4294967296≤n) (n1:n≤4294967296) :
  Calls Tryz.prog 56 #[s.val,.int .i64 n] w fun e w'=>e=.returned (.tuple #[(mvS s n).val,.bool (mvOk s n)])∧Gr w w':=rmoved_core 7 rfl s n w h n0 n1
set_option maxRecDepth 20000 in
set_option maxHeartbeats 8000000 in
theorem rsame_core (k7:Nat) (hk7:7=k7) (m n:CM) (w:World) (hm:ChR w m) (hn:ChR w n) (hl:m.c.ch.length≤4611686018427387904):Calls Tryz.prog 47 #[m.val,n.val] w fun e w'=>e=.returned (.bool (decide (m.c=n.c)))∧Gr w w':=by
 have aE7:∀ w,(isAgg 79).run Tryz.prog w=.ok true w:=Tryz.isAgg79
 have zE7:∀ w,(Go.sizeOf 79).run Tryz.prog w=.ok k7 w:=fun w=>by rw [← hk7];exact Tryz.sizeOf79 w
 have hk0:¬ k7=0:=by omega
 have hea:∀ w,(binOp .eql 79 (.agg m.c.a.cells.toArray) (.agg n.c.a.cells.toArray)).run Tryz.prog w=.ok (.bool (decide (m.c.a=n.c.a))) w:=fun w=>eq_src m.c.a n.c.a w
 have heb:∀ w,(binOp .eql 79 (.agg m.c.b.cells.toArray) (.agg n.c.b.cells.toArray)).run Tryz.prog w=.ok (.bool (decide (m.c.b=n.c.b))) w:=fun w=>eq_src m.c.b n.c.b w
 obtain⟨_,a1,cap1,hv1,ha⟩:=hm
 obtain⟨_,a2,cap2,hv2,hb⟩:=hn
 obtain⟨W,hW⟩:∃ W,(w.alloc (.cells m.cells.toArray 81)).alloc (.cells n.cells.toArray 81)=W:=⟨_,rfl⟩
 have hgA:Gr w W:=by rw [← hW];exact ((Gr.refl w).alloc _).alloc _
 have hbm:Cel W w.heap.size m.cells:=by rw [← hW];exact (Cel.new w m.cells.toArray 81).alloc _
 have hbn:Cel W (w.heap.size+1) n.cells:=by
  rw [← hW]
  have:=Cel.new (w.alloc (.cells m.cells.toArray 81)) n.cells.toArray 81
  simpa using this
 have HM:Hid (∀ wx,Gr W wx→BoxF wx w.heap.size m.c (.slice a1 m.c.ch.length cap1)∧Sem.run Tryz.prog (loadCellsFrom ⟨w.heap.size,2,none⟩ 0 k7 #[]) wx=.ok m.c.a.cells.toArray wx∧Sem.run Tryz.prog (loadCellsFrom ⟨w.heap.size,9,none⟩ 0 k7 #[]) wx=.ok m.c.b.cells.toArray wx):=Lib.hid fun wx hg=>by
  have h1:=BoxF.of (hbm.gr hg)
  rw [hv1] at h1
  exact⟨h1,box_src hk7 (hbm.gr hg)⟩
 have HN:Hid (∀ wx,Gr W wx→BoxF wx (w.heap.size+1) n.c (.slice a2 n.c.ch.length cap2)∧Sem.run Tryz.prog (loadCellsFrom ⟨w.heap.size+1,2,none⟩ 0 k7 #[]) wx=.ok n.c.a.cells.toArray wx∧Sem.run Tryz.prog (loadCellsFrom ⟨w.heap.size+1,9,none⟩ 0 k7 #[]) wx=.ok n.c.b.cells.toArray wx):=Lib.hid fun wx hg=>by
  have h1:=BoxF.of (hbn.gr hg)
  rw [hv2] at h1
  exact⟨h1,box_src hk7 (hbn.gr hg)⟩
 replace hk7:=Lib.hid hk7
 replace hW:=Lib.hid hW
 have ha3:m.c.ch.length=0∨∃ b o,a1=some ⟨b,o,none⟩∧b<W.heap.size∧∀ j (h:j<m.c.ch.length),W.cell? ⟨b,o+j,none⟩=some (.int .i64 m.c.ch[j]):=by
  rcases ha with ha | ⟨b,o,h1,h2,h3⟩
  ·exact .inl ha.1
  ·exact .inr ⟨b,o,h1,Nat.lt_of_lt_of_le h2 hgA.size,fun j hj=>(hgA.cells.1 b _ h2).trans (h3 j _ (ints_at hj))⟩
 have hb3:n.c.ch.length=0∨∃ b o,a2=some ⟨b,o,none⟩∧b<W.heap.size∧∀ j (h:j<n.c.ch.length),W.cell? ⟨b,o+j,none⟩=some (.int .i64 n.c.ch[j]):=by
  rcases hb with ha | ⟨b,o,h1,h2,h3⟩
  ·exact .inl ha.1
  ·exact .inr ⟨b,o,h1,Nat.lt_of_lt_of_le h2 hgA.size,fun j hj=>(hgA.cells.1 b _ h2).trans (h3 j _ (ints_at hj))⟩
 replace ha3:=Lib.hid ha3
 replace hb3:=Lib.hid hb3
 have hR0:=cl_eq_iff m.c n.c
 rw [hR0]
 replace hR0:=Lib.hid hR0
 unfold CM.val
 clear hbm hbn hv1 hv2 ha hb
 generalize m.cells=l1 at *
 generalize n.cells=l2 at *
 generalize m.c.a.cells=la1 at *
 generalize m.c.b.cells=lb1 at *
 generalize n.c.a.cells=la2 at *
 generalize n.c.b.cells=lb2 at *
 obtain⟨⟨len,kind,a,b,off,tot,par,tx,gain,ch⟩,cv⟩:=m
 obtain⟨⟨len',kind',a',b',off',tot',par',tx',gain',ch'⟩,cv'⟩:=n
 simp only at *
 clear hR0
 generalize decide (a=a')=Ra at *
 generalize decide (b=b')=Rb at *
 obtain⟨Rc,hRc⟩:∃ Rc,decide (ch=ch')=Rc:=⟨_,rfl⟩
 rw [hRc]
 obtain⟨R,hR⟩:∃ R,((len == len') && ((kind == kind') && (Ra && (Rb && ((off == off') && ((tot == tot') && ((par == par') && ((tx.toList == tx'.toList) && ((gain == gain') && Rc)))))))))=R:=⟨_,rfl⟩
 rw [hR]
 replace hRc:=Lib.hid hRc
 replace hR:=Lib.hid hR
 go_enter Tryz.func47,Tryz.ntmps47
 go_upto_region 1 with fail
 rw [hW.out]
 obtain⟨⟨x,x0,x1,x16,x17,x18,x19,x20,x21⟩,s1,s2⟩:=HM.out W (Gr.refl _)
 obtain⟨⟨y,y0,y1,y16,y17,y18,y19,y20,y21⟩,s3,s4⟩:=HN.out W (Gr.refl _)
 simp only at *
 clear x0 x1 x16 x17 x18 x19 x20 s1 s2 y0 y1 y16 y17 y18 y19 y20 s3 s4
 by_cases c6:ch.length=ch'.length
 ·have q6:(!((ch.length:Int) == (ch'.length:Int)))=false:=by simp [c6]
  go_wp2
  go_loopw [5] (fun i wr=>∃ j:Nat,j≤ch.length∧i=.int .i64 j∧Hid (ch.take j=ch'.take j)∧Gr W wr) (fun i _=>ch.length - (RowKit.intOf i).toNat)
  case atStart=>exact⟨0,Nat.zero_le _,rfl,Lib.hid rfl,Gr.refl _⟩
  case round=>
   obtain⟨j,hj,rfl,hno,hg⟩:=hrel
   clear x x21 y y21
   obtain⟨⟨x,x0,x1,x16,x17,x18,x19,x20,x21⟩,s1,s2⟩:=HM.out wr hg
   obtain⟨⟨y,y0,y1,y16,y17,y18,y19,y20,y21⟩,s3,s4⟩:=HN.out wr hg
   simp only at *
   by_cases c1:j<ch.length
   ·clear x0 x1 x16 x17 x18 x19 x20 s1 s2 y0 y1 y16 y17 y18 y19 y20 s3 s4
    have q1:decide ((j:Int)<(ch.length:Int))=true:=decide_eq_true (by omega)
    rcases ha3.out with ha2 | ⟨b1,o,rfl,hb1,hc1⟩
    ·omega
    rcases hb3.out with hb2 | ⟨b2,o2,rfl,hb2,hc2⟩
    ·omega
    have hx1:b1<wr.heap.size:=Nat.lt_of_lt_of_le hb1 hg.size
    have hx2:b2<wr.heap.size:=Nat.lt_of_lt_of_le hb2 hg.size
    have z0:wr.cell? ⟨b1,o+j,none⟩=some (.int .i64 ch[j]):=(hg.cells.1 b1 _ hb1).trans (hc1 j c1)
    have z1:wr.cell? ⟨b2,o2+j,none⟩=some (.int .i64 (ch'[j]'(by omega))):=(hg.cells.1 b2 _ hb2).trans (hc2 j (by omega))
    have hj2:(0:Int)≤(j:Int)∧(j:Int)<(ch'.length:Int):=by omega
    have hall:ch[j]=ch'[j]'(by omega)→ch.take (j+1)=ch'.take (j+1):=fun e=>by
     rw [← List.take_append_getElem c1,← List.take_append_getElem (show j<ch'.length by omega),hno.out,e]
    have hbad:ch[j]≠ch'[j]'(by omega)→ch≠ch':=fun e h=>e (by simp [h])
    generalize ch[j]=xx at z0 hall hbad
    generalize ch'[j]'(by omega)=yy at z1 hall hbad
    clear hc1 hc2 hno
    by_cases cx:xx=yy
    ·have q3:(!(xx == yy))=false:=by simp [cx]
     have hall:=Lib.hid (hall cx)
     clear hbad
     have cx:=Lib.hid cx
     go_upto_region 6 with fail
     refine wp_region_gr (by kernel_rfl) (by kernel_rfl) (fun hq1 hq2=>?_)
     repeat (first | go_big_quiet_skip | (go_big_quiet_want;go_big_quiet_op;first | go_big_quiet_on | (apply Exists.intro;refine⟨fun _=>?_,?_⟩;(· (fail));go_big_quiet_on)))
     refine wpQuiet_nil ?_
     clear hq1 hq2
     rintro w1 ⟨⟨_,hg1⟩,rfl⟩
     obtain⟨hc1,hf1⟩:=hg1.cells
     have hz1:=hg1.size
     (try simp at hz1);(try have hl1_0_0:w.heap.size<w1.heap.size:=by omega);(try have hm1_0_0:w.heap.size≤w1.heap.size:=by omega);(try have hl1_0_1:w.heap.size+1<w1.heap.size:=by omega);(try have hl1_0_2:w.heap.size+2<w1.heap.size:=by omega)
     go_wp2
     go_roundw
     case rel=>exact⟨j+1,by omega,by go_num,hall,hg.trans hg1⟩
     case measure=>simp [RowKit.intOf];omega
    ·have q3:(!(xx == yy))=true:=by simpa using cx
     have hbad:=Lib.hid (hbad cx)
     clear hall
     go_upto_region 6 with fail
     refine wp_region_gr (by kernel_rfl) (by kernel_rfl) (fun hq1 hq2=>?_)
     repeat (first | go_big_quiet_skip | (go_big_quiet_want;go_big_quiet_op;first | go_big_quiet_on | (apply Exists.intro;refine⟨fun _=>?_,?_⟩;(· (fail));go_big_quiet_on)))
     refine wpQuiet_nil ?_
     clear hq1 hq2
     rintro w1 ⟨⟨_,hg1⟩,rfl⟩
     obtain⟨hc1,hf1⟩:=hg1.cells
     have hz1:=hg1.size
     (try simp at hz1);(try have hl1_0_0:w.heap.size<w1.heap.size:=by omega);(try have hm1_0_0:w.heap.size≤w1.heap.size:=by omega);(try have hl1_0_1:w.heap.size+1<w1.heap.size:=by omega);(try have hl1_0_2:w.heap.size+2<w1.heap.size:=by omega)
     go_wp2
     go_ret
     exact⟨by rw [← hR.out,← hRc.out,decide_eq_false hbad.out];simp,(hgA.trans hg).trans hg1⟩
   ·have q1:decide ((j:Int)<(ch.length:Int))=false:=decide_eq_false (by omega)
    have hst:=hno.out
    rw [List.take_of_length_le (by omega),List.take_of_length_le (by omega)] at hst
    have hRr:=hR.out
    rw [← hRc.out,decide_eq_true hst] at hRr
    clear ha3 hb3 hno hR hRc hst
    generalize hE1:(len == len')=E1 at *
    generalize hE2:(kind == kind')=E2 at *
    generalize hE3:(off == off')=E3 at *
    generalize hE4:(tot == tot')=E4 at *
    generalize hE5:(par == par')=E5 at *
    generalize hE6:(tx.toList == tx'.toList)=E6 at *
    generalize hE7:(gain == gain')=E7 at *
    replace hRr:=Lib.hid hRr
    have hgB:=hgA.trans hg
    go_wp2
    all_goals go_ret
    all_goals refine⟨?_,hgB⟩
    all_goals have hh:=hRr.out
    all_goals simp_all
 ·have q6:(!((ch.length:Int) == (ch'.length:Int)))=true:=by simp;omega
  have hRr:=hR.out
  rw [← hRc.out,decide_eq_false (show ¬ ch=ch' from fun e=>c6 (by rw [e]))] at hRr
  replace hRr:=Lib.hid hRr
  go_wp2
  go_ret
  exact⟨by rw [← hRr.out];simp,hgA⟩
theorem rsame_any (m n:CM) (w:World) (hm:ChR w m) (hn:ChR w n) (hl:m.c.ch.length≤4611686018427387904):Calls Tryz.prog 47 #[m.val,n.val] w fun e w'=>e=.returned (.bool (decide (m.c=n.c)))∧Gr w w':=rsame_core 7 rfl m n w hm hn hl
open Go.RowKit
theorem still_next {P:Program} {ops:Array Oper} {md:Region.Mode} {Q:Exit→Act→World→Prop} {S:Nat→World→Prop} {f j:Nat} {oj:Oper} {listed:Array Bool} {a:Act} {w:World} (hl:Region.ready md ops listed=[j]) (hj:ops[j]?=some oj)
  (h:∀ R:Act→World→Prop,(∀ a' w',(∀ i,¬ waitsFor md ops j i→S i w→S i w')→stillAny P md ops Q S f (listed.setIfInBounds j true) a' w'→R a' w')→wpList P ops (only R) [oj] a w):stillAny P md ops Q S (f+1) listed a w:=
 still_pick [j] hl (by simp) (fun i hi=>by rw [List.mem_singleton.1 hi];exact still_one hj h)
abbrev zClip:Array Value:=#[.int .i64 0,.int .i64 0,.int .i64 0,.string ⟨#[]⟩,.int .i64 0,.int .i64 0,.int .i64 0,.int .i64 0,.bool false,.int .i64 0,.string ⟨#[]⟩,.int .i64 0,.int .i64 0,.int .i64 0,.int .i64 0,.bool false,.int .i64 0,.int .i64 0,.int .i64 0,.string ⟨#[]⟩,.int .i64 0,.slice none 0 0]
theorem ChR.row {w:World} {m:CM} {g:Nat} {l:Array Value} (h:ChR w m) (hne:m.cv.ownBlock≠some g):ChR (w.setRow g l) m:=Rd.grown (grown_setRow w g l) (.inr (.inl hne)) h
theorem ChR.cell {w:World} {m:CM} {p:Addr} {u:Value} (h:ChR w m) (hne:m.cv.ownBlock≠some p.block):ChR (w.setCell p u) m:=Rd.setCell p u hne h
theorem own_below {W:World} {base size n:Nat} {e:TypeId} {v:Value} {xs:List Value} (h:W.ownsRow base e size v n xs):∀ k,v.ownBlock=some k→k<W.heap.size:=fun k hk=>by
 rcases h.2 with ⟨rfl,rfl⟩ | ⟨g,cap,cur,rfl,hb,hg,_⟩
 ·simp [Value.ownBlock] at hk
 ·have:g=k:=by simpa [Value.ownBlock] using hk
  subst this
  exact (Array.getElem?_eq_some_iff.1 hg).1
theorem infoSrc7:(Tryz.prog.info? 79).map (·.size)=some 7:=by kernel_rfl
set_option maxHeartbeats 4000000 in
theorem rcopy_core (k:Nat) (hk22:22=k) (m:CM) (w:World) (h:ChR w m) (hn:m.c.ch.length * 8≤140737488355328) :
  Calls Tryz.prog 123 #[m.val] w fun e w'=>∃ v',e=.returned (m.re v').val∧Gr w w'∧ChR w' (m.re v')∧(∀ base,Far base 81 w' v')∧(∀ j,v'.ownBlock=some j→w.heap.size≤j∧j<w'.heap.size):=by
 have aE:∀ w,(isAgg 81).run Tryz.prog w=.ok true w:=Tryz.isAgg81
 have zE:∀ w,(Go.sizeOf 81).run Tryz.prog w=.ok k w:=fun w=>by rw [← hk22];exact Tryz.sizeOf81 w
 replace hk22:=Lib.hid hk22
 obtain⟨ii,hii,hi0,hi1,hi2⟩:=info_parts infoInt
 obtain⟨a,cap,hcv⟩:=h.slice
 have hone:=h.one
 have hR0:Rd w (.slice a m.c.ch.length cap) m.c.ch.length 1 (intsV m.c.ch):=by
  have:=h
  unfold ChR at this
  rwa [hcv] at this
 obtain⟨l,hml⟩:∃ l,m.cells=l:=⟨_,rfl⟩
 have hlk:l.length=22:=by rw [← hml];rfl
 have hl21:l[21]?=some (.slice a m.c.ch.length cap):=by rw [← hml,← hcv];rfl
 have hre:Hid (∀ v',(m.re v').cells=l.set 21 v'):=Lib.hid fun v'=>by rw [re_cells,hml]
 have hch:Hid (∀ w v',Rd w v' m.c.ch.length 1 (intsV m.c.ch)→ChR w (m.re v')):=Lib.hid fun w v' h=>h
 unfold CM.val
 rw [hml]
 rw [hml] at hone
 generalize m.c.ch=xs at *
 clear hml hcv h
 obtain⟨W,hW⟩:∃ W,(w.alloc (.cells l.toArray 81)).alloc (.cells zClip 81)=W:=⟨_,rfl⟩
 have hb0:Blk W w.heap.size 81 l:=by
  rw [← hW]
  exact (Blk.new w l 81).gr ((Gr.refl _).alloc _)
 have hb1:Blk W (w.heap.size+1) 81 zClip.toList:=by
  rw [← hW]
  have:=Blk.new (w.alloc (.cells l.toArray 81)) zClip.toList 81
  simpa using this
 have hgA:Gr w W:=by rw [← hW];exact ((Gr.refl w).alloc _).alloc _
 have hWs:W.heap.size=w.heap.size+2:=by rw [← hW];simp
 have hRA:=hR0.gr hgA
 replace hW:=Lib.hid hW
 go_enter Tryz.func123,Tryz.ntmps123
 go_upto_region 1 with fail
 rw [show (w.alloc (.cells l.toArray 81)).alloc (.cells zClip 81)=W from hW.out]
 have x:=hb0.lt
 have x0:=(hb0.cel.2 21 _ hl21).1
 go_upto_region 2 with (at_builtin;refine wpList_append_rd rfl (.const (.slice none 0 0)) (.tmp 4) 25 rfl (w.heap.size+2) 3 ii (.int .i64 0) 1 8 (by kernel_rfl) hii hi0 hi1 hi2 rfl (by decide) (.slice none 0 0) 0 [] rfl (World.ownsRow_nil _ _ _ _) _ xs.length (intsV xs) rfl hRA (ints_one _) ?_ ?_ ?_ ?_;(· unfold maxLen;omega);(· omega);(· omega);intro v' w2 hown2 hgrow2;have hg2:Gr W w2:=(Gr.refl W).grown hgrow2 (fun k hk=>by simp [Value.ownBlock] at hk);simp only [Nat.zero_add,List.nil_append] at hown2;obtain⟨a2,cap2,rfl⟩:=own_shape hown2;have hb02:=hb0.gr hg2;have y0:=hb02.lt;have y1:=(hb02.cel.2 21 _ hl21).1;have y2:=(hb02.cel.2 21 _ hl21).2)
 have hb12:=hb1.gr hg2
 have hlt2:=own_below hown2
 have hge2:=own_ge hown2
 have hR2:=Rd.own hown2
 have hF2:∀ base,Far base 81 w2 (.slice a2 xs.length cap2):=fun base=>Far.row hown2 (by decide)
 have hnb:(Value.slice a2 xs.length cap2).ownBlock≠some w.heap.size:=fun e=>by have:=hge2 _ e;omega
 have hnc:(Value.slice a2 xs.length cap2).ownBlock≠some (w.heap.size+1):=fun e=>by have:=hge2 _ e;omega
 have hbA:=hb02.set 21 (.slice a2 xs.length cap2)
 have hbB:=hb12.other (p:=⟨w.heap.size,21,none⟩) (by simp) (.slice a2 xs.length cap2)
 have hgB:Gr w (w2.setCell ⟨w.heap.size,21,none⟩ (.slice a2 xs.length cap2)):=(hgA.trans hg2).setCell (Nat.le_refl _) _
 have hRB:=hR2.setCell ⟨w.heap.size,21,none⟩ (.slice a2 xs.length cap2) hnb
 have hFB:=fun base=>(hF2 base).keep (grown_setCell w2 ⟨w.heap.size,21,none⟩ (.slice a2 xs.length cap2)) hnb
 have hl':∀ v∈l.set 21 (.slice a2 xs.length cap2),v.oneCell'=true:=fun v hv=>by
  rcases List.mem_or_eq_of_mem_set hv with h | h
  ·exact hone v h
  ·rw [h];rfl
 have hlk':(l.set 21 (.slice a2 xs.length cap2)).length=k:=by rw [List.length_set,hlk];exact hk22.out
 have hre':=hre.out (.slice a2 xs.length cap2)
 have hsz:(w2.setCell ⟨w.heap.size,21,none⟩ (.slice a2 xs.length cap2)).heap.size=w2.heap.size:=by simp
 generalize l.set 21 (.slice a2 xs.length cap2)=l' at hbA hl' hlk' hre'
 generalize w2.setCell ⟨w.heap.size,21,none⟩ (.slice a2 xs.length cap2)=W3 at *
 have la:=ld_blk (P:=Tryz.prog) hlk' hbA
 have st:=st_blk (P:=Tryz.prog) hbB (by rw [hlk',← hk22.out];rfl) hl'
 have hbC:=hbB.setRow l'
 have lb:=ld_blk (P:=Tryz.prog) hlk' hbC
 have hgC:=hgB.setRow (g:=w.heap.size+1) (by omega) l'.toArray
 have hgr:=grown_setRow W3 (w.heap.size+1) l'.toArray
 have hRC:=hRB.grown hgr (.inr (.inl hnc))
 have hFC:=fun base=>(hFB base).keep hgr hnc
 have hbl:∀ j,(Value.slice a2 xs.length cap2).ownBlock=some j→w.heap.size≤j∧j<W3.heap.size:=fun j hj=>by
  have h1:=hge2 j hj
  have h2:=hlt2 j hj
  omega
 replace hre':=Lib.hid hre'
 replace hbl:=Lib.hid hbl
 clear hbA hbB hbC hRB hFB hgB hgr hb02 hb12 y0 y1 y2 hR2 hF2 hge2 hlt2 hsz
 go_wp2
 simp [bodyPost,results,Tryz.results123,go_sem,aE,zE,lb]
 exact⟨_,by rw [hre'.out],hgC,hch.out _ _ hRC,hFC,hbl.out⟩
theorem rshares_any (k:Int) (w:World):Calls Tryz.prog 128 #[.int .i64 k] w fun e w'=>e=.returned (.bool (shr k))∧Gr w w':=by
 have hs:shr k=((k == 2) || (k == 3)):=by
  unfold shr
  by_cases h2:k=2 <;> by_cases h3:k=3 <;> simp [h2,h3]
 rw [hs]
 generalize hE1:(k == 2)=E1 at *
 generalize hE2:(k == 3)=E2 at *
 go_enter Tryz.func128,Tryz.ntmps128
 go_wp2
 all_goals go_ret
 all_goals refine⟨?_,Gr.refl _⟩
 all_goals simp_all
def shf (c:Cl) (n:Int):Cl:=⟨c.len,c.kind,mvS c.a n,mvS c.b n,if shr c.kind then c.off+n else c.off,c.tot,c.par,c.tx,c.gain,c.ch⟩
set_option maxRecDepth 20000 in
set_option maxHeartbeats 8000000 in
theorem rshift_core (k k7:Nat) (hk22:22=k) (hk7:7=k7) (m:CM) (n:Int) (w:World) (hm:ChR w m) (hl:m.c.ch.length≤4) (ha:vSr m.c.a) (hb:vSr m.c.b)
  (n0:0≤n) (n1:n≤4294967296) (o0:-1099511627776≤m.c.off) (o1:m.c.off≤1099511627776) :
  Calls Tryz.prog 162 #[m.val,.int .i64 n] w fun e w'=>∃ v',e=.returned (.tuple #[(⟨shf m.c n,v'⟩:CM).val,.bool (mvOk m.c.a n && mvOk m.c.b n)])∧Gr w w'∧ChR w' ⟨shf m.c n,v'⟩:=by
 have aE7:∀ w,(isAgg 79).run Tryz.prog w=.ok true w:=Tryz.isAgg79
 have zE7:∀ w,(Go.sizeOf 79).run Tryz.prog w=.ok k7 w:=fun w=>by rw [← hk7];exact Tryz.sizeOf79 w
 have aE:∀ w,(isAgg 81).run Tryz.prog w=.ok true w:=Tryz.isAgg81
 have zE:∀ w,(Go.sizeOf 81).run Tryz.prog w=.ok k w:=fun w=>by rw [← hk22];exact Tryz.sizeOf81 w
 have hk0:¬ k7=0:=by omega
 obtain⟨sA,hsA⟩:∃ sA,mvS m.c.a n=sA:=⟨_,rfl⟩
 obtain⟨sB,hsB⟩:∃ sB,mvS m.c.b n=sB:=⟨_,rfl⟩
 obtain⟨kA,hkA⟩:∃ kA,mvOk m.c.a n=kA:=⟨_,rfl⟩
 obtain⟨kB,hkB⟩:∃ kB,mvOk m.c.b n=kB:=⟨_,rfl⟩
 have HA:Hid (∀ w',Calls Tryz.prog 56 #[.agg m.c.a.cells.toArray,.int .i64 n] w' fun e w''=>e=.returned (.tuple #[.agg sA.cells.toArray,.bool kA])∧Gr w' w''):=Lib.hid fun w'=>by
  have:=rmoved_core 7 rfl m.c.a n w' ha (by omega) n1
  rw [hsA,hkA] at this
  exact this
 have HB:Hid (∀ w',Calls Tryz.prog 56 #[.agg m.c.b.cells.toArray,.int .i64 n] w' fun e w''=>e=.returned (.tuple #[.agg sB.cells.toArray,.bool kB])∧Gr w' w''):=Lib.hid fun w'=>by
  have:=rmoved_core 7 rfl m.c.b n w' hb (by omega) n1
  rw [hsB,hkB] at this
  exact this
 obtain⟨Sh,hSh⟩:∃ Sh,shr m.c.kind=Sh:=⟨_,rfl⟩
 have HS:Hid (∀ w',Calls Tryz.prog 128 #[.int .i64 m.c.kind] w' fun e w''=>e=.returned (.bool Sh)∧Gr w' w''):=Lib.hid fun w'=>by
  have:=rshares_any m.c.kind w'
  rw [hSh] at this
  exact this
 obtain⟨of,hof⟩:∃ of,(if Sh then m.c.off+n else m.c.off)=of:=⟨_,rfl⟩
 have HC:Hid (∀ w',Gr w w'→Calls Tryz.prog 123 #[.agg m.cells.toArray] w' fun e w''=>∃ v',e=.returned (.agg (m.re v').cells.toArray)∧Gr w' w''∧ChR w'' (m.re v')∧(∀ j,v'.ownBlock=some j→w'.heap.size≤j∧j<w''.heap.size)):=Lib.hid fun w' hg=>
  (rcopy_core 22 rfl m w' (hm.gr hg) (by omega)).mono fun e w'' ⟨v',q1,q2,q3,_,q5⟩=>⟨v',q1,q2,q3,q5⟩
 rw [hkA,hkB]
 have hfin:∀ v',((m.re v').src sA sB).cells.set 16 (.int .i64 of)=(⟨shf m.c n,v'⟩:CM).cells:=fun v'=>by
  rw [← hof,← hsA,← hsB,← hSh]
  rfl
 have hone:=hm.one
 have hlm:m.cells.length=k:=by rw [← hk22];rfl
 have honea:=Sr.one sA
 have honeb:=Sr.one sB
 have hla:sA.cells.length=7:=rfl
 have hlb:sB.cells.length=7:=rfl
 obtain⟨W0,hW0⟩:∃ W0,(w.alloc (.cells m.cells.toArray 81)).alloc (.cells zClip 81)=W0:=⟨_,rfl⟩
 have hz0:W0.heap.size=w.heap.size+2:=by rw [← hW0];simp
 have hg0:Gr w W0:=by rw [← hW0];exact ((Gr.refl w).alloc _).alloc _
 have hbm:Blk W0 w.heap.size 81 m.cells:=by rw [← hW0];exact (Blk.new w m.cells 81).gr ((Gr.refl _).alloc _)
 have hbr:Blk W0 (w.heap.size+1) 81 zClip.toList:=by
  rw [← hW0]
  have:=Blk.new (w.alloc (.cells m.cells.toArray 81)) zClip.toList 81
  simpa using this
 have i1:m.cells[1]?=some (.int .i64 m.c.kind):=rfl
 have i16:m.cells[16]?=some (.int .i64 m.c.off):=rfl
 have la0:=ld_blk (P:=Tryz.prog) hlm hbm
 have lq:Hid (∀ wx,Gr W0 wx→Sem.run Tryz.prog (loadCellsFrom ⟨w.heap.size,2,none⟩ 0 k7 #[]) wx=.ok m.c.a.cells.toArray wx∧Sem.run Tryz.prog (loadCellsFrom ⟨w.heap.size,9,none⟩ 0 k7 #[]) wx=.ok m.c.b.cells.toArray wx):=Lib.hid fun wx hgx=>box_src hk7 (hbm.gr hgx).cel
 have hren:Hid (∀ v',(m.re v').cells.length=22):=Lib.hid fun v'=>rfl
 have hsn1:Hid (∀ v',((m.re v').src sA (m.re v').c.b).cells.length=22):=Lib.hid fun v'=>rfl
 have hsn2:Hid (∀ v',((m.re v').src sA sB).cells.length=22):=Lib.hid fun v'=>rfl
 have hsl1:=Lib.hid fun v'=>src_a (m.re v') sA
 have hsl2:=Lib.hid fun v'=>src_b (m.re v') sA sB
 have hcv:Hid (∀ v',(m.re v').cv=v'):=Lib.hid fun v'=>rfl
 unfold CM.val
 replace hk7:=Lib.hid hk7
 replace hk22:=Lib.hid hk22
 replace hW0:=Lib.hid hW0
 replace hla:=Lib.hid hla
 replace hlb:=Lib.hid hlb
 replace hof:=Lib.hid hof
 clear hsA hsB hkA hkB hSh ha hb
 go_enter Tryz.func162,Tryz.ntmps162
 go_upto_region 1 with fail
 rw [show (w.alloc (.cells m.cells.toArray 81)).alloc (.cells zClip 81)=W0 from hW0.out]
 go_upto_region 2 with (go_at_call 123;(with_reducible refine (HC.out _ hg0).mono ?_);rintro e w1 ⟨v',rfl,hg1,hch1,hbl1⟩;have hrk:(m.re v').cells.length=k:=(by rw [hren.out];exact hk22.out);have st1:Sem.run Tryz.prog (storeCells ⟨w1.heap.size,0,none⟩ (m.re v').cells 0) (w1.alloc (.cells zClip 81))=.ok () (w1.alloc (.cells (m.re v').cells.toArray 81)):=st_new w1 _ _ (m.re v').cells (by rw [hren.out];exact infoClip) (by rw [hren.out];rfl) hch1.one)
 have hgB:Gr w (w1.alloc (.cells (m.re v').cells.toArray 81)):=(hg0.trans hg1).alloc _
 have hgB0:Gr W0 (w1.alloc (.cells (m.re v').cells.toArray 81)):=hg1.alloc _
 have hbd:Blk (w1.alloc (.cells (m.re v').cells.toArray 81)) w1.heap.size 81 (m.re v').cells:=Blk.new w1 (m.re v').cells 81
 have hchB:ChR (w1.alloc (.cells (m.re v').cells.toArray 81)) (m.re v'):=hch1.gr ((Gr.refl w1).alloc _)
 obtain⟨D,hD⟩:∃ D,w1.heap.size=D:=⟨_,rfl⟩
 have hDs:w.heap.size+2≤D:=by have:=hg1.size;omega
 have hvD:∀ j,v'.ownBlock=some j→w.heap.size+2≤j∧j<D:=fun j hj=>by have:=hbl1 j hj;omega
 rw [hD] at hbd ⊢
 replace hvD:=Lib.hid hvD
 clear hg1 hch1 hbl1 st1 hD la0 HC hrk
 generalize w1.alloc (.cells (m.re v').cells.toArray 81)=W1 at *
 have lqa:=(lq.out _ hgB0).1
 have x1:=(hbm.gr hgB0).lt
 go_upto_region 3 with (go_at_call 56;(with_reducible refine (HA.out _).mono ?_);rintro e w2 ⟨rfl,hg2⟩;have st2:Sem.run Tryz.prog (storeCells ⟨w2.heap.size,0,none⟩ sA.cells 0) (w2.alloc (.cells #[.int .i64 0,.string ⟨#[]⟩,.int .i64 0,.int .i64 0,.int .i64 0,.int .i64 0,.bool false] 79))=.ok () (w2.alloc (.cells sA.cells.toArray 79)):=st_new w2 _ _ sA.cells (by rw [hla.out];exact infoSrc7) (by rw [hla.out];rfl) honea)
 have hba:Blk (w2.alloc (.cells sA.cells.toArray 79)) w2.heap.size 79 sA.cells:=Blk.new w2 sA.cells 79
 have hg2':=hg2.alloc (.cells sA.cells.toArray 79)
 have hA1:D<w2.heap.size:=by have:=hbd.lt;have:=hg2.size;omega
 have hbd2:=hbd.gr hg2'
 have hch2:=hchB.gr hg2'
 have hgC:=hgB.trans hg2'
 have hgC0:=hgB0.trans hg2'
 generalize w2.heap.size=xA at *
 clear hg2 hg2' st2 lqa x1 hbd hchB hgB hgB0 HA
 generalize w2.alloc (.cells sA.cells.toArray 79)=W2 at *
 have lqb:=(lq.out _ hgC0).2
 have x1:=(hbm.gr hgC0).lt
 go_upto_region 4 with (go_at_call 56;(with_reducible refine (HB.out _).mono ?_);rintro e w3 ⟨rfl,hg3⟩;have st3:Sem.run Tryz.prog (storeCells ⟨w3.heap.size,0,none⟩ sB.cells 0) (w3.alloc (.cells #[.int .i64 0,.string ⟨#[]⟩,.int .i64 0,.int .i64 0,.int .i64 0,.int .i64 0,.bool false] 79))=.ok () (w3.alloc (.cells sB.cells.toArray 79)):=st_new w3 _ _ sB.cells (by rw [hlb.out];exact infoSrc7) (by rw [hlb.out];rfl) honeb)
 have hbb:Blk (w3.alloc (.cells sB.cells.toArray 79)) w3.heap.size 79 sB.cells:=Blk.new w3 sB.cells 79
 have hg3':=hg3.alloc (.cells sB.cells.toArray 79)
 have hB1:D<w3.heap.size:=by have:=hbd2.lt;have:=hg3.size;omega
 have hba3:=hba.gr hg3'
 have hbd3:=hbd2.gr hg3'
 have hch3:=hch2.gr hg3'
 have hgD:=hgC.trans hg3'
 have hgD0:=hgC0.trans hg3'
 generalize w3.heap.size=xB at *
 clear hg3 hg3' st3 lqb x1 hbd2 hch2 hgC hgC0 hba HB
 generalize w3.alloc (.cells sB.cells.toArray 79)=W3 at *
 have hlak:sA.cells.length=k7:=by rw [hla.out,hk7.out]
 have hlbk:sB.cells.length=k7:=by rw [hlb.out,hk7.out]
 have hgu:Gr W3 W3.drew:=(Gr.refl W3).drew
 replace hba3:=hba3.gr hgu
 replace hbb:=hbb.gr hgu
 replace hbd3:=hbd3.gr hgu
 replace hch3:=hch3.gr hgu
 replace hgD:=hgD.trans hgu
 replace hgD0:=hgD0.trans hgu
 clear hgu
 have hAD:xA≠D:=by omega
 have hBD:xB≠D:=by omega
 refine wp_region_still (Keep 2 (fun x=>Blk x xA 79 sA.cells∧Blk x xB 79 sB.cells)) 6 rfl (by kernel_rfl) ?_
 show stillAny _ _ _ _ _ _ #[false,false,false,false,false,false] _ _
 generalize W3.drew=U at *
 refine still_pure 0 (v:=.agg sA.cells.toArray) rfl (by kernel_rfl) (by kernel_rfl) (by kernel_rfl) (fun _=>⟨hba3,hbb⟩) rfl (fun wy hw=>?_) ?_
 ·replace hw:=hw (by decide)
  have q1:=hw.1.lt
  have q2:=ld_blk (P:=Tryz.prog) hlak hw.1
  simp [execOp,go_sem,aE7,zE7,hk0,q1,q2]
 simp only [Act.put,zI,zS,zZ]
 refine still_pure 1 (v:=.agg sB.cells.toArray) rfl (by kernel_rfl) (by kernel_rfl) (by kernel_rfl) (fun _=>⟨hba3,hbb⟩) rfl (fun wy hw=>?_) ?_
 ·replace hw:=hw (by decide)
  have q1:=hw.2.lt
  have q2:=ld_blk (P:=Tryz.prog) hlbk hw.2
  simp [execOp,go_sem,aE7,zE7,hk0,q1,q2]
 simp only [Act.put,zI,zS,zZ]
 have hp7:2+7≤(m.re v').cells.length:=by rw [hren.out];omega
 have st4:(storeCells ⟨D,2,none⟩ sA.cells 0).run Tryz.prog U=.ok () (U.setRow D ((m.re v').src sA (m.re v').c.b).cells.toArray):=by
  have:=st_part (P:=Tryz.prog) (o:=2) hbd3 (by rw [hla.out];omega) honea
  rw [hsl1.out] at this
  exact this
 have hbd5:=hbd3.setRow ((m.re v').src sA (m.re v').c.b).cells
 have rd:=hbd3.lt
 refine still_next (j:=2) (by kernel_rfl) (by rfl) (fun R hR=>?_)
 (try simp only [zG,zH,zK])
 go_wp2_with fail
 refine only_normal (hR _ _ (Keep.step (fun h=>h)) ?_)
 clear hR R
 simp only [Act.put,zI,zS,zZ]
 refine still_next (j:=3) (by kernel_rfl) (by rfl) (fun R hR=>?_)
 (try simp only [zG,zH,zK])
 go_wp2_with fail
 refine only_normal (hR _ _ (Keep.step (fun h=>⟨h.1.setRow_other hAD _,h.2.setRow_other hBD _⟩)) ?_)
 clear hR R
 simp only [Act.put,zI,zS,zZ]
 have st5:(storeCells ⟨D,9,none⟩ sB.cells 0).run Tryz.prog (U.setRow D ((m.re v').src sA (m.re v').c.b).cells.toArray)=.ok () ((U.setRow D ((m.re v').src sA (m.re v').c.b).cells.toArray).setRow D ((m.re v').src sA sB).cells.toArray):=by
  have:=st_part (P:=Tryz.prog) (o:=9) hbd5 (by rw [hlb.out,hsn1.out];omega) honeb
  rw [hsl2.out] at this
  exact this
 have hbd6:=hbd5.setRow ((m.re v').src sA sB).cells
 have hvn:(m.re v').cv.ownBlock≠some D:=fun e=>by have:=hvD.out _ e;omega
 have hch6:ChR ((U.setRow D ((m.re v').src sA (m.re v').c.b).cells.toArray).setRow D ((m.re v').src sA sB).cells.toArray) (m.re v'):=(hch3.row hvn).row hvn
 have hbm6:Blk ((U.setRow D ((m.re v').src sA (m.re v').c.b).cells.toArray).setRow D ((m.re v').src sA sB).cells.toArray) w.heap.size 81 m.cells:=((hbm.gr hgD0).setRow_other (by omega) _).setRow_other (by omega) _
 have hbr6:Blk ((U.setRow D ((m.re v').src sA (m.re v').c.b).cells.toArray).setRow D ((m.re v').src sA sB).cells.toArray) (w.heap.size+1) 81 zClip.toList:=((hbr.gr hgD0).setRow_other (by omega) _).setRow_other (by omega) _
 have hg6:Gr w ((U.setRow D ((m.re v').src sA (m.re v').c.b).cells.toArray).setRow D ((m.re v').src sA sB).cells.toArray):=(hgD.setRow (g:=D) (by omega) _).setRow (g:=D) (by omega) _
 have rd5:=hbd5.lt
 refine still_next (j:=4) (by kernel_rfl) (by rfl) (fun R hR=>?_)
 (try simp only [zG,zH,zK])
 go_wp2_with fail
 refine only_normal (hR _ _ (Keep.step (fun h=>h)) ?_)
 clear hR R
 simp only [Act.put,zI,zS,zZ]
 refine still_next (j:=5) (by kernel_rfl) (by rfl) (fun R hR=>?_)
 (try simp only [zG,zH,zK])
 go_wp2_with fail
 refine only_normal (hR _ _ (Keep.step (fun h=>⟨h.1.setRow_other hAD _,h.2.setRow_other hBD _⟩)) ?_)
 clear hR R
 simp only [Act.put,zI,zS,zZ]
 have y:=hbm6.lt
 have y1:=(hbm6.cel.2 1 _ i1).1
 refine still_done (by kernel_rfl) ?_
 go_upto_if 33 with (go_at_call 128;(with_reducible refine (HS.out _).mono ?_);rintro e w7 ⟨rfl,hg7⟩)
 have hbd7:=(hbd6.gr hg7).cel
 have hbm7:=hbm6.gr hg7
 have hbr7:=hbr6.gr hg7
 have hch7:=hch6.gr hg7
 have hgE:=hg6.trans hg7
 clear y y1 hg7 hg6 hbm6 hbr6 hch6 hbd6 hbd5 hbd3 hba3 hbb hch3 st4 st5 hbm hbr rd rd5 hgD hgD0 hAD hBD hA1 hB1 lq
 have y:=hbm7.lt
 have y16:=(hbm7.cel.2 16 _ i16).1
 have z:=hbd7.lt
 have hl16:((m.re v').src sA sB).cells[16]?=some (.int .i64 m.c.off):=rfl
 obtain⟨z16,f16⟩:=hbd7.2 16 _ hl16
 have hvr:(m.re v').cv.ownBlock≠some (w.heap.size+1):=fun e=>by have:=hvD.out _ e;omega
 have hfv:=hfin v'
 have hlf:(⟨shf m.c n,v'⟩:CM).cells.length=k:=by rw [← hk22.out];rfl
 have hlz:(⟨shf m.c n,v'⟩:CM).cells.length=zClip.toList.length:=rfl
 have hchf:∀ {wx:World},ChR wx (m.re v')→ChR wx ⟨shf m.c n,v'⟩:=fun h=>h
 have hD1:w.heap.size+1≠D:=by omega
 have hD2:w.heap.size≤D:=by omega
 replace hren:=Lib.hid True.intro
 cases Sh with
 | true=>
  have hof2:m.c.off+n=of:=by have:=hof.out;simpa using this
  have hU:=hbd7.set (k:=16) (by rw [hsn2.out];omega) (.int .i64 (m.c.off+n))
  have hbrU:=hbr7.other (p:=⟨D,16,none⟩) (fun e=>hD1 e.symm) (.int .i64 (m.c.off+n))
  have hchU:ChR (w7.setCell ⟨D,16,none⟩ (.int .i64 (m.c.off+n))) (m.re v'):=hch7.cell hvn
  have hgU:=hgE.setCell (p:=⟨D,16,none⟩) hD2 (.int .i64 (m.c.off+n))
  rw [hof2,hfv] at hU
  rw [hof2] at hbrU hgU hchU
  replace hof2:=Lib.hid hof2
  replace hfv:=Lib.hid hfv
  go_upto_region 7 with fail
  rw [hof2.out]
  clear y y16 z z16 f16 hbd7 hbm7 hbr7 hch7 hgE
  generalize w7.setCell ⟨D,16,none⟩ (.int .i64 of)=U7 at *
  have hone7:=(hchf hchU).one
  have z:=hU.lt
  have ld7:=ld_cel (P:=Tryz.prog) hlf hU
  have st7:=st_blk (P:=Tryz.prog) hbrU hlz hone7
  have hbS:=hbrU.setRow (⟨shf m.c n,v'⟩:CM).cells
  have ld8:=ld_blk (P:=Tryz.prog) hlf hbS
  have hgS:=hgU.setRow (g:=w.heap.size+1) (by omega) (⟨shf m.c n,v'⟩:CM).cells.toArray
  have hchS:=hchf ((hchU.row hvr):ChR (U7.setRow (w.heap.size+1) (⟨shf m.c n,v'⟩:CM).cells.toArray) (m.re v'))
  replace hchS:=Lib.hid hchS
  clear hU hbrU hchU hgU
  cases kA
  ·go_wp2
   simp [bodyPost,results,Tryz.results162,go_sem,aE,zE,ld8]
   exact⟨v',rfl,hgS,hchS.out⟩
  ·go_wp2
   simp [bodyPost,results,Tryz.results162,go_sem,aE,zE,ld8]
   exact⟨v',rfl,hgS,hchS.out⟩
 | false=>
  have hof2:m.c.off=of:=by have:=hof.out;simpa using this
  have c16:((m.re v').src sA sB).cells.set 16 (.int .i64 m.c.off)=((m.re v').src sA sB).cells:=rfl
  rw [← hof2,c16] at hfv
  rw [hfv] at hbd7
  replace hof2:=Lib.hid hof2
  replace hfv:=Lib.hid hfv
  replace c16:=Lib.hid c16
  go_upto_region 7 with fail
  clear y y16 z z16 f16 hbm7
  have hone7:=(hchf hch7).one
  have z:=hbd7.lt
  have ld7:=ld_cel (P:=Tryz.prog) hlf hbd7
  have st7:=st_blk (P:=Tryz.prog) hbr7 hlz hone7
  have hbS:=hbr7.setRow (⟨shf m.c n,v'⟩:CM).cells
  have ld8:=ld_blk (P:=Tryz.prog) hlf hbS
  have hgS:=hgE.setRow (g:=w.heap.size+1) (by omega) (⟨shf m.c n,v'⟩:CM).cells.toArray
  have hchS:=hchf ((hch7.row hvr):ChR (w7.setRow (w.heap.size+1) (⟨shf m.c n,v'⟩:CM).cells.toArray) (m.re v'))
  replace hchS:=Lib.hid hchS
  clear hbd7 hbr7 hch7 hgE
  cases kA
  ·go_wp2
   simp [bodyPost,results,Tryz.results162,go_sem,aE,zE,ld8]
   exact⟨v',rfl,hgS,hchS.out⟩
  ·go_wp2
   simp [bodyPost,results,Tryz.results162,go_sem,aE,zE,ld8]
   exact⟨v',rfl,hgS,hchS.out⟩
set_option maxRecDepth 20000 in
set_option maxHeartbeats 8000000 in
theorem rcontinues_core (k:Nat) (hk22:22=k) (m n:CM) (w:World) (hm:ChR w m) (hn:ChR w n) (hl:m.c.ch.length≤4) (ha:vSr m.c.a) (hb:vSr m.c.b)
  (n0:0≤m.c.len) (n1:m.c.len≤4294967296) (o0:-1099511627776≤m.c.off) (o1:m.c.off≤1099511627776) :
  Calls Tryz.prog 122 #[m.val,n.val] w fun e w'=>e=.returned (.bool (cont m.c n.c))∧Gr w w':=by
 have aE:∀ w,(isAgg 81).run Tryz.prog w=.ok true w:=Tryz.isAgg81
 have zE:∀ w,(Go.sizeOf 81).run Tryz.prog w=.ok k w:=fun w=>by rw [← hk22];exact Tryz.sizeOf81 w
 obtain⟨K,hK⟩:∃ K,(mvOk m.c.a m.c.len && mvOk m.c.b m.c.len)=K:=⟨_,rfl⟩
 have HS:Hid (∀ w',Gr w w'→Calls Tryz.prog 162 #[.agg m.cells.toArray,.int .i64 m.c.len] w' fun e w''=>∃ v',e=.returned (.tuple #[.agg (⟨shf m.c m.c.len,v'⟩:CM).cells.toArray,.bool K])∧Gr w' w''∧ChR w'' ⟨shf m.c m.c.len,v'⟩):=Lib.hid fun w' hg=>by
  have:=rshift_core 22 7 rfl rfl m m.c.len w' (hm.gr hg) hl ha hb n0 n1 o0 o1
  rw [hK] at this
  exact this
 have HE:Hid (∀ (w':World) v',ChR w' ⟨nxt m.c n.c.len,v'⟩→Gr w w'→Calls Tryz.prog 47 #[.agg (⟨nxt m.c n.c.len,v'⟩:CM).cells.toArray,.agg n.cells.toArray] w' fun e w''=>e=.returned (.bool (decide (nxt m.c n.c.len=n.c)))∧Gr w' w''):=Lib.hid fun w' v' h1 hg=>
  rsame_any ⟨nxt m.c n.c.len,v'⟩ n w' h1 (hn.gr hg) (by show m.c.ch.length≤_;omega)
 have hset:Hid (∀ v',(⟨shf m.c m.c.len,v'⟩:CM).cells.set 0 (.int .i64 n.c.len)=(⟨nxt m.c n.c.len,v'⟩:CM).cells):=Lib.hid fun v'=>rfl
 have hchn:Hid (∀ (wx:World) v',ChR wx ⟨shf m.c m.c.len,v'⟩→ChR wx ⟨nxt m.c n.c.len,v'⟩):=Lib.hid fun wx v' h=>h
 have hcont:cont m.c n.c=(((m.c.kind == 0) && (n.c.kind == 0)) || decide (nxt m.c n.c.len=n.c)):=by
  unfold cont
  have h1:decide (m.c.kind=0∧n.c.kind=0)=((m.c.kind == 0) && (n.c.kind == 0)):=by
   by_cases h2:m.c.kind=0 <;> by_cases h3:n.c.kind=0 <;> simp [h2,h3]
  rw [h1]
 rw [hcont]
 obtain⟨Eq,hEq⟩:∃ Eq,decide (nxt m.c n.c.len=n.c)=Eq:=⟨_,rfl⟩
 rw [hEq] at HE ⊢
 have hone:=hm.one
 have hlm:m.cells.length=k:=by rw [← hk22];rfl
 have hln:n.cells.length=k:=by rw [← hk22];rfl
 have hls:Hid (∀ v',(⟨shf m.c m.c.len,v'⟩:CM).cells.length=22):=Lib.hid fun v'=>rfl
 have hlx:∀ v',(⟨nxt m.c n.c.len,v'⟩:CM).cells.length=k:=fun v'=>by rw [← hk22];rfl
 have hs0:Hid (∀ v',(⟨shf m.c m.c.len,v'⟩:CM).cells[0]?=some (.int .i64 m.c.len)):=Lib.hid fun v'=>rfl
 obtain⟨W2,hW2⟩:∃ W2,(w.alloc (.cells m.cells.toArray 81)).alloc (.cells n.cells.toArray 81)=W2:=⟨_,rfl⟩
 have hz2:W2.heap.size=w.heap.size+2:=by rw [← hW2];simp
 have hg2:Gr w W2:=by rw [← hW2];exact ((Gr.refl w).alloc _).alloc _
 have hbm:Cel W2 w.heap.size m.cells:=by rw [← hW2];exact (Cel.new w m.cells.toArray 81).alloc _
 have hbn:Cel W2 (w.heap.size+1) n.cells:=by
  rw [← hW2]
  have:=Cel.new (w.alloc (.cells m.cells.toArray 81)) n.cells.toArray 81
  simpa using this
 have i0:m.cells[0]?=some (.int .i64 m.c.len):=rfl
 have i1:m.cells[1]?=some (.int .i64 m.c.kind):=rfl
 have j0:n.cells[0]?=some (.int .i64 n.c.len):=rfl
 have j1:n.cells[1]?=some (.int .i64 n.c.kind):=rfl
 unfold CM.val
 replace hk22:=Lib.hid hk22
 replace hW2:=Lib.hid hW2
 replace hlx:=Lib.hid hlx
 clear hcont hm hn ha hb hK hEq
 generalize hE1:(m.c.kind == 0)=E1 at *
 generalize hE2:(n.c.kind == 0)=E2 at *
 go_enter Tryz.func122,Tryz.ntmps122
 go_upto_region 1 with fail
 rw [hW2.out]
 have x:=hbm.lt
 have x0:=(hbm.2 0 _ i0).1
 have x1:=(hbm.2 1 _ i1).1
 have y:=hbn.lt
 have y1:=(hbn.2 1 _ j1).1
 by_cases hE:E1=true∧E2=true
 ·obtain⟨rfl,rfl⟩:=hE
  go_wp2
  go_ret
  exact⟨rfl,hg2⟩
 ·have hEE:(E1 && E2)=false:=by
   cases E1 <;> cases E2 <;> simp_all
  replace hE:=Lib.hid hE
  replace hEE:=Lib.hid hEE
  go_cut [14] (fun vb wx=>vb=.bool false∧wx=W2)
  case first=>as_aux_lemma=>
   cases E1 <;> cases E2
   ·go_wp2;go_meet;exact⟨rfl,rfl⟩
   ·go_wp2;go_meet;exact⟨rfl,rfl⟩
   ·go_wp2;go_meet;exact⟨rfl,rfl⟩
   ·exact absurd ⟨rfl,rfl⟩ hE.out
  case rest=>
   obtain⟨rfl,rfl⟩:=hcut
   have lm:=ld_cel (P:=Tryz.prog) hlm hbm
   go_upto_region 4 with (go_at_call 162;(with_reducible refine (HS.out _ hg2).mono ?_);rintro e w3 ⟨v',rfl,hg3,hch3⟩;have hk3:(⟨shf m.c m.c.len,v'⟩:CM).cells.length=k:=(by rw [hls.out];exact hk22.out);have st3:Sem.run Tryz.prog (storeCells ⟨w3.heap.size,0,none⟩ (⟨shf m.c m.c.len,v'⟩:CM).cells 0) (w3.alloc (.cells zClip 81))=.ok () (w3.alloc (.cells (⟨shf m.c m.c.len,v'⟩:CM).cells.toArray 81)):=st_new w3 _ _ (⟨shf m.c m.c.len,v'⟩:CM).cells (by rw [hls.out];exact infoClip) (by rw [hls.out];rfl) hch3.one)
   have hbx:Cel (w3.alloc (.cells (⟨shf m.c m.c.len,v'⟩:CM).cells.toArray 81)) w3.heap.size (⟨shf m.c m.c.len,v'⟩:CM).cells:=Cel.new w3 _ 81
   have hg4:=hg3.alloc (.cells (⟨shf m.c m.c.len,v'⟩:CM).cells.toArray 81)
   have hgw4:=hg2.trans hg4
   have hbn4:=hbn.gr hg4
   have hchU:ChR ((w3.alloc (.cells (⟨shf m.c m.c.len,v'⟩:CM).cells.toArray 81)).setCell ⟨w3.heap.size,0,none⟩ (.int .i64 n.c.len)) ⟨nxt m.c n.c.len,v'⟩:=hchn.out _ _ (hch3.gr (((Gr.refl w3).alloc _).setCell (p:=⟨w3.heap.size,0,none⟩) (Nat.le_refl _) _))
   obtain⟨X,hX⟩:∃ X,w3.heap.size=X:=⟨_,rfl⟩
   have hXs:w.heap.size+2≤X:=by have:=hg3.size;omega
   rw [hX] at hbx hchU ⊢
   clear lm st3 hch3 hg3 hk3 x x0 x1 y y1 hX
   generalize w3.alloc (.cells (⟨shf m.c m.c.len,v'⟩:CM).cells.toArray 81)=W4 at *
   have y:=hbn4.lt
   have y0:=(hbn4.2 0 _ j0).1
   have z:=hbx.lt
   obtain⟨z0,f0⟩:=hbx.2 0 _ (hs0.out v')
   have hbU:=hbx.set (k:=0) (by rw [hls.out];omega) (.int .i64 n.c.len)
   rw [hset.out] at hbU
   have hbnU:=hbn4.other (p:=⟨X,0,none⟩) (by show X≠_;omega) (.int .i64 n.c.len)
   have hgU:=hgw4.setCell (p:=⟨X,0,none⟩) (by show w.heap.size≤X;omega) (.int .i64 n.c.len)
   go_upto_region 5 with fail
   clear y y0 z z0 f0 hbx hbn4 hgw4 hg4
   generalize W4.setCell ⟨X,0,none⟩ (.int .i64 n.c.len)=U at *
   have lm1:=ld_cel (P:=Tryz.prog) (hlx.out v') hbU
   have lm2:=ld_cel (P:=Tryz.prog) hln hbnU
   have y:=hbnU.lt
   have z:=hbU.lt
   go_wp2_with (go_at_call 47;(with_reducible refine (HE.out _ _ hchU hgU).mono ?_);rintro e w9 ⟨rfl,hg9⟩)
   go_ret
   exact⟨by rw [hEE.out,Bool.false_or];rfl,hgU.trans hg9⟩
theorem rcontinues_any (m n:CM) (w:World) (hm:ChR w m) (hn:ChR w n) (hv:VC m.c) :
  Calls Tryz.prog 122 #[m.val,n.val] w fun e w'=>e=.returned (.bool (cont m.c n.c))∧Gr w w':=by
 have h1:=hv.len
 have h2:0≤m.c.off∧m.c.off≤2147483647:=by
  rcases hv.kd with h | h | h | h | h | h <;> omega
 exact rcontinues_core 22 rfl m n w hm hn hv.chn.1 hv.a hv.b (by omega) (by omega) (by omega) (by omega)
def PkR (cs:List CM) (i:Nat) (ts:List CM) (R:List Cl):Prop:=
 (i=0∧ts=[]∧pk (cs.map CM.c)=R)∨(∃ (ini:List CM) (m:CM),0<i∧ts=ini ++ [m]∧ini.map CM.c ++ pkGo m.c ((cs.drop i).map CM.c)=R)
theorem PkR.end {cs:List CM} {ts:List CM} {R:List Cl} (h:PkR cs cs.length ts R):ts.map CM.c=R:=by
 rcases h with ⟨h1,rfl,h2⟩ | ⟨ini,m,h1,rfl,h3⟩
 ·rw [List.eq_nil_of_length_eq_zero h1] at h2
  exact h2
 ·rw [List.drop_length] at h3
  rw [← h3]
  simp [pkGo]
theorem PkR.first {cs:List CM} {ts:List CM} {R:List Cl} (hl:0<cs.length) (h:PkR cs 0 ts R) (m:CM) (hm:m.c=cs[0].c):PkR cs 1 (ts ++ [m]) R:=by
 rcases h with ⟨h1,rfl,h2⟩ | ⟨ini,m,h1,_⟩
 ·refine .inr ⟨[],m,by omega,rfl,?_⟩
  rw [← h2,hm]
  cases cs with
  | nil=>simp at hl
  | cons a r=>rfl
 ·omega
theorem PkR.last {cs:List CM} {i:Nat} {ini:List CM} {m:CM} {R:List Cl} (h:PkR cs i (ini ++ [m]) R):ini.map CM.c ++ pkGo m.c ((cs.drop i).map CM.c)=R:=by
 rcases h with ⟨_,h2,_⟩ | ⟨ini',m',h1,h4,h3⟩
 ·simp at h2
 ·obtain⟨e1,e2⟩:=List.append_inj' h4 rfl
  injection e2 with e2
  subst e1 e2
  exact h3
theorem PkR.new {cs:List CM} {i:Nat} {ini:List CM} {m0:CM} {R:List Cl} (hi:i<cs.length) (h:PkR cs i (ini ++ [m0]) R) (hk:cont m0.c cs[i].c=false) (m:CM) (hm:m.c=cs[i].c):PkR cs (i+1) (ini ++ [m0] ++ [m]) R:=by
 have h3:=h.last
 refine .inr ⟨ini ++ [m0],m,by omega,rfl,?_⟩
 rw [List.drop_eq_getElem_cons hi,List.map_cons,pkGo,hk] at h3
 rw [← h3,hm]
 simp
theorem PkR.join {cs:List CM} {i:Nat} {ini:List CM} {m:CM} {R:List Cl} (hi:i<cs.length) (h:PkR cs i (ini ++ [m]) R) (hk:cont m.c cs[i].c=true):PkR cs (i+1) (ini ++ [⟨longer m.c cs[i].c.len,m.cv⟩]) R:=by
 have h3:=h.last
 refine .inr ⟨ini,_,by omega,rfl,?_⟩
 rw [List.drop_eq_getElem_cons hi,List.map_cons,pkGo,hk] at h3
 exact h3
theorem PkR.some {cs:List CM} {i:Nat} {ts:List CM} {R:List Cl} (h0:0<i) (h:PkR cs i ts R):∃ ini m,ts=ini ++ [m]:=by
 rcases h with ⟨h1,_⟩ | ⟨ini,m,_,h,_⟩
 ·omega
 ·exact⟨ini,m,h⟩
def PkV (cs:List CM) (i:Nat) (ts:List CM):Prop:=(∀ m∈ts,VC m.c)∧tot (ts.map CM.c)=tot ((cs.take i).map CM.c)
theorem tot_take {cs:List CM} {i:Nat} (hi:i<cs.length):tot ((cs.take (i+1)).map CM.c)=tot ((cs.take i).map CM.c)+cs[i].c.len:=by
 rw [← List.take_append_getElem hi,List.map_append,tot_append]
 simp [tot]
theorem tot_pre {cs:List CM} (hv:∀ c∈cs,VC c.c) (i:Nat):tot ((cs.take i).map CM.c)≤tot (cs.map CM.c):=by
 have h:tot (cs.map CM.c)=tot ((cs.take i).map CM.c)+tot ((cs.drop i).map CM.c):=by rw [← tot_append,← List.map_append,List.take_append_drop]
 have h2:0≤tot ((cs.drop i).map CM.c):=tot_nonneg fun c hc=>by
  obtain⟨m,hm,rfl⟩:=List.mem_map.1 hc
  exact (hv m (List.mem_of_mem_drop hm)).vl
 omega
theorem PkV.new {cs:List CM} {i:Nat} {ts:List CM} (hi:i<cs.length) (hv:∀ c∈cs,VC c.c) (h:PkV cs i ts) (m:CM) (hm:m.c=cs[i].c):PkV cs (i+1) (ts ++ [m]):=by
 refine⟨fun x hx=>?_,?_⟩
 ·rcases List.mem_append.1 hx with h1 | h1
  ·exact h.1 x h1
  ·rw [List.mem_singleton.1 h1,hm]
   exact hv _ (List.getElem_mem hi)
 ·rw [tot_take hi,List.map_append,tot_append,h.2]
  simp [tot,hm]
theorem PkV.len {cs:List CM} {i:Nat} {ini:List CM} {m:CM} (hi:i<cs.length) (hv:∀ c∈cs,VC c.c) (ht:tot (cs.map CM.c)≤2147483647) (h:PkV cs i (ini ++ [m])):0≤m.c.len∧m.c.len+cs[i].c.len≤2147483647:=by
 have h1:=(h.1 m (by simp)).len
 have h2:=h.2
 rw [List.map_append,tot_append] at h2
 have h3:0≤tot (ini.map CM.c):=tot_nonneg fun c hc=>by
  obtain⟨x,hx,rfl⟩:=List.mem_map.1 hc
  exact (h.1 x (List.mem_append_left _ hx)).vl
 have h4:=tot_pre hv (i+1)
 rw [tot_take hi] at h4
 simp only [List.map_cons,List.map_nil,tot] at h2
 omega
theorem PkV.join {cs:List CM} {i:Nat} {ini:List CM} {m:CM} (hi:i<cs.length) (hv:∀ c∈cs,VC c.c) (ht:tot (cs.map CM.c)≤2147483647) (h:PkV cs i (ini ++ [m])) (hk:cont m.c cs[i].c=true):PkV cs (i+1) (ini ++ [⟨longer m.c cs[i].c.len,m.cv⟩]):=by
 have hl:=h.len hi hv ht
 refine⟨fun x hx=>?_,?_⟩
 ·rcases List.mem_append.1 hx with h1 | h1
  ·exact h.1 x (List.mem_append_left _ h1)
  ·rw [List.mem_singleton.1 h1]
   exact (h.1 m (by simp)).longer (hv _ (List.getElem_mem hi)) hk hl.2
 ·have h2:=h.2
  rw [List.map_append,tot_append] at h2
  rw [tot_take hi,List.map_append,tot_append]
  simp [tot,longer] at h2 ⊢
  omega
set_option maxRecDepth 20000 in
set_option maxHeartbeats 8000000 in
theorem rpack_core (k:Nat) (hk22:22=k) (cs:List CM) (v:Value) (w:World) (h:TrR w v cs) (hn:cs.length≤1000000) (hv:∀ c∈cs,VC c.c) (ht:tot (cs.map CM.c)≤2147483647) :
  Calls Tryz.prog 92 #[v] w fun e w'=>∃ v' ts,e=.returned v'∧Gr w w'∧TrO w.heap.size w' v' ts∧ts.map CM.c=pk (cs.map CM.c)∧ts.length≤cs.length:=by
 have aE:∀ w,(isAgg 81).run Tryz.prog w=.ok true w:=Tryz.isAgg81
 have zE:∀ w,(Go.sizeOf 81).run Tryz.prog w=.ok k w:=fun w=>by rw [← hk22];exact Tryz.sizeOf81 w
 replace hk22:=Lib.hid hk22
 obtain⟨a,cap,rfl,ha⟩:=h.shape
 have hch:=h.ch
 clear h
 replace ha:=Lib.hid ha
 replace hch:=Lib.hid hch
 replace hv:=Lib.hid hv
 replace ht:=Lib.hid ht
 obtain⟨R,hR⟩:∃ R,pk (cs.map CM.c)=R:=⟨_,rfl⟩
 rw [hR]
 have hI:Hid (PkR cs 0 [] R):=Lib.hid (.inl ⟨rfl,rfl,hR⟩)
 clear hR
 go_enter Tryz.func92,Tryz.ntmps92
 go_wp2
 go_loopw [3,4] (fun n i wr=>∃ (j:Nat) (ts:List CM),j≤cs.length∧ts.length≤j∧i=.int .i64 j∧Hid (PkR cs j ts R)∧Hid (TrO w.heap.size wr n ts)∧Hid (PkV cs j ts)∧Gr w wr) (fun _ i _=>cs.length - (RowKit.intOf i).toNat)
 case atStart=>exact⟨0,[],Nat.zero_le _,Nat.le_refl _,rfl,hI,Lib.hid (TrO.nil _ _),Lib.hid ⟨fun m hm=>(by cases hm),rfl⟩,Gr.refl _⟩
 case round=>
  obtain⟨j,ts,hj,htj,rfl,hno,hO,hL,hg⟩:=hrel
  clear hI
  obtain⟨p9,c9,rfl⟩:=own_shape hO.out.own
  by_cases c1:j<cs.length
  ·have q1:decide ((j:Int)<(cs.length:Int))=true:=decide_eq_true (by omega)
   rcases ha.out with ha2 | ⟨b,o,rfl,hb,hc⟩
   ·omega
   have hx1:b<wr.heap.size:=Nat.lt_of_lt_of_le hb hg.size
   have hcell:∀ (x:Nat) (u:Value),cs[j].cells[x]?=some u→wr.cell? ⟨b,o+j * 22+x,none⟩=some u:=fun x u hu=>(hg.cells.1 b _ hb).trans (hc j c1 x u hu)
   have hone:=(hch.out _ (List.getElem_mem c1)).one
   obtain⟨l,hml⟩:∃ l,cs[j].cells=l:=⟨_,rfl⟩
   have hlk:l.length=k:=by rw [← hml,← hk22.out];rfl
   have hl0:l[0]?=some (.int .i64 cs[j].c.len):=by rw [← hml];rfl
   have hlj:=(hv.out _ (List.getElem_mem c1)).len
   rw [hml] at hcell hone
   replace hml:=Lib.hid hml
   have la:Hid (∀ wx,Gr wr wx→Sem.run Tryz.prog (loadCellsFrom ⟨b,o+j * k,none⟩ 0 k #[]) wx=.ok l.toArray wx):=Lib.hid fun wx hgx=>by
    rw [show j * k=j * 22 by rw [← hk22.out]]
    exact ld_row hlk fun y u hu=>(hgx.cells.1 b _ hx1).trans (hcell y u hu)
   go_upto_region 6 with fail
   go_cut [27] (fun vb wx=>∃ B:Bool,vb=.bool B∧Gr wr wx∧((B=true∧0<j∧∃ ini m,ts=ini ++ [m]∧cont m.c cs[j].c=true)∨(B=false∧(j=0∨∃ ini m,ts=ini ++ [m]∧cont m.c cs[j].c=false))))
   case first=>as_aux_lemma=>
    by_cases c0:0<j
    ·obtain⟨ini,m,hts⟩:=hno.out.some c0
     have hlen:ts.length=ini.length+1:=by rw [hts];simp
     have q0:decide (0<ts.length)=true:=decide_eq_true (by omega)
     have hOr:=hO.out.read
     obtain⟨a2,cap2,e2,e3⟩:=hOr.shape
     injection e2 with e4 e5 e6
     subst e4
     rcases e3 with e3 | ⟨g,o2,rfl,hxg,hcg⟩
     ·omega
     have hcm:∀ (x:Nat) (u:Value),m.cells[x]?=some u→wr.cell? ⟨g,o2+ini.length * 22+x,none⟩=some u:=fun x u hu=>hcg ini.length (by omega) x u (by simpa [hts] using hu)
     have hmc:ChR wr m:=hOr.ch m (by simp [hts])
     have hmv:=hL.out.1 m (by simp [hts])
     have HKj:Hid (∀ w',Gr wr w'→Calls Tryz.prog 122 #[m.val,cs[j].val] w' fun e w''=>e=.returned (.bool (cont m.c cs[j].c))∧Gr w' w''):=Lib.hid fun w' hg'=>rcontinues_any m cs[j] w' (hmc.gr hg') ((hch.out _ (List.getElem_mem c1)).gr (hg.trans hg')) hmv
     obtain⟨Kb,hKb⟩:∃ Kb,cont m.c cs[j].c=Kb:=⟨_,rfl⟩
     rw [hKb] at HKj
     unfold CM.val at HKj
     rw [hml.out] at HKj
     obtain⟨lp,hlp⟩:∃ lp,m.cells=lp:=⟨_,rfl⟩
     have hlpk:lp.length=k:=by rw [← hlp,← hk22.out];rfl
     rw [hlp] at HKj hcm
     have hj1:((ts.length:Int) - 1)=(ini.length:Int):=by omega
     have hj2:(0:Int)≤(ini.length:Int)∧(ini.length:Int)<(ts.length:Int):=by omega
     have lq:∀ x:GW wr,Sem.run Tryz.prog (loadCellsFrom ⟨g,o2+ini.length * k,none⟩ 0 k #[]) x.w=.ok lp.toArray x.w:=fun x=>by
      rw [show ini.length * k=ini.length * 22 by rw [← hk22.out]]
      exact ld_row hlpk fun y u hu=>(x.h.cells.1 g _ hxg).trans (hcm y u hu)
     have lr:∀ x:GW wr,Sem.run Tryz.prog (loadCellsFrom ⟨b,o+j * k,none⟩ 0 k #[]) x.w=.ok l.toArray x.w:=fun x=>la.out _ x.h
     have htn:ts.length≤1000000:=by omega
     replace hlen:=Lib.hid hlen
     replace hts:=Lib.hid hts
     clear hc hlp hcm hcg hno hO hL e5 e6 hOr
     refine wp_region_gr (by kernel_rfl) (by kernel_rfl) (fun hq1 hq2=>?_)
     repeat (first | go_big_quiet_skip | (go_big_quiet_want;go_big_quiet_op;first | go_big_quiet_on | (apply Exists.intro;refine⟨fun _=>?_,?_⟩;(· ((go_at_call 122;exact gr_call (HKj.out _ (GW.h _)))));go_big_quiet_on)))
     refine wpQuiet_nil ?_
     clear hq1 hq2
     rintro w1 ⟨⟨_,hg1⟩,rfl⟩
     obtain⟨hc1,hf1⟩:=hg1.cells
     have hz1:=hg1.size
     (try simp at hz1);(try have hl1_0_0:w.heap.size<w1.heap.size:=by omega);(try have hm1_0_0:w.heap.size≤w1.heap.size:=by omega);(try have hl1_0_1:w.heap.size+1<w1.heap.size:=by omega);(try have hl1_0_2:w.heap.size+2<w1.heap.size:=by omega)
     go_wp2
     go_meet
     refine⟨Kb,rfl,hg1,?_⟩
     cases Kb
     ·exact .inr ⟨rfl,.inr ⟨_,_,hts.out,hKb⟩⟩
     ·exact .inl ⟨rfl,c0,_,_,hts.out,hKb⟩
    ·obtain rfl:ts=[]:=List.eq_nil_of_length_eq_zero (by omega)
     refine wp_region_gr (by kernel_rfl) (by kernel_rfl) (fun hq1 hq2=>?_)
     repeat (first | go_big_quiet_skip | (go_big_quiet_want;go_big_quiet_op;first | go_big_quiet_on | (apply Exists.intro;refine⟨fun _=>?_,?_⟩;(· (fail));go_big_quiet_on)))
     refine wpQuiet_nil ?_
     clear hq1 hq2
     rintro w1 ⟨⟨_,hg1⟩,rfl⟩
     obtain⟨hc1,hf1⟩:=hg1.cells
     have hz1:=hg1.size
     (try simp at hz1);(try have hl1_0_0:w.heap.size<w1.heap.size:=by omega);(try have hm1_0_0:w.heap.size≤w1.heap.size:=by omega);(try have hl1_0_1:w.heap.size+1<w1.heap.size:=by omega);(try have hl1_0_2:w.heap.size+2<w1.heap.size:=by omega)
     go_wp2
     go_meet
     exact⟨false,rfl,(by repeat (first | refine Gr.setCell ?_ (by first | omega | (simp;done) | (simp;omega)) _ | refine Gr.alloc ?_ _ | refine Gr.drew ?_ | refine Gr.drewN ?_ _ | with_reducible assumption | with_reducible exact Gr.refl _ | refine Gr.trans ?_ (by with_reducible assumption))),.inr ⟨rfl,.inl (by omega)⟩⟩
   case rest=>as_aux_lemma=>
    obtain⟨B,rfl,hg5,hB⟩:=hcut
    have hOx:=Lib.hid (hO.out.gr hg5)
    have hgx:=hg.trans hg5
    have hx2:b<wc.heap.size:=Nat.lt_of_lt_of_le hx1 hg5.size
    have lac:=la.out _ hg5
    have hc0:wc.cell? ⟨b,o+j * k,none⟩=some (.int .i64 cs[j].c.len):=by
     rw [← hk22.out]
     exact (hg5.cells.1 b _ hx1).trans (hcell 0 _ hl0)
    replace hB:=Lib.hid hB
    cases B with
    | true=>
     obtain⟨c0,ini,m,hts,hcont⟩:0<j∧∃ ini m,ts=ini ++ [m]∧cont m.c cs[j].c=true:=by
      rcases hB.out with ⟨_,h⟩ | ⟨h,_⟩
      ·exact h
      ·cases h
     subst hts
     have hno2:=Lib.hid (hno.out.join c1 hcont)
     have hL2:=Lib.hid (hL.out.join c1 hv.out ht.out hcont)
     have hm0:=hL.out.len c1 hv.out ht.out
     have hlen:(ini ++ [m]).length=ini.length+1:=by simp
     obtain⟨g,rfl⟩:∃ g,p9=some ⟨g,0,none⟩:=by
      rcases hOx.out.own.2 with ⟨e,e2⟩ | ⟨g,cap',cur,e,_⟩
      ·injection e with e1 e2 e3
       omega
      ·injection e with e1
       exact⟨g,e1⟩
     have hxg:=(hOx.out.own.lt g rfl).2
     have hgw:=(hOx.out.own.lt g rfl).1
     have x0:wc.cell? ⟨g,ini.length * k,none⟩=some (.int .i64 m.c.len):=by
      rw [← hk22.out,show ini.length * 22=ini.length * 22+0 by omega,hOx.out.own.cellAt _ (by rw [hlen];omega),cflat_at _ _ (by rw [hlen];omega) 0 (by omega)]
      simp [CM.cells]
     have f0:wc.frozen? ⟨g,ini.length * k,none⟩=false:=hOx.out.own.frozenAt _
     have hnl:((ini.length:Int)+1 - 1)=(ini.length:Int):=by omega
     obtain⟨lj,hlj2⟩:∃ lj,cs[j].c.len=lj:=⟨_,rfl⟩
     rw [hlj2] at hc0 hlj hno2 hL2 hm0
     obtain⟨lm,hlm⟩:∃ lm,m.c.len=lm:=⟨_,rfl⟩
     rw [hlm] at x0 hm0
     simp only [hlen]
     have hlm2:=Lib.hid hlm
     have hO3:Hid (∀ wz,Gr wc wz→TrO w.heap.size (wz.setCell ⟨g,ini.length * k,none⟩ (.int .i64 (lm+lj))) (.slice (some ⟨g,0,none⟩) (ini.length+1) c9) (ini ++ [⟨longer m.c lj,m.cv⟩])):=Lib.hid fun wz hgz=>by
      have:=(hOx.out.gr hgz).set ini.length (by rw [hlen];omega) 0 (by omega) (.int .i64 (lm+lj)) ⟨longer m.c lj,m.cv⟩ (by rw [← hlm2.out];simp [CM.cells,longer]) (by simp) (by simp [longer])
      rw [List.length_set,hlen,show (ini ++ [m]).set ini.length ⟨longer m.c lj,m.cv⟩=ini ++ [⟨longer m.c lj,m.cv⟩] by simp,show ini.length * 22+0=ini.length * k by rw [← hk22.out];omega] at this
      exact this
     clear hlm hlj2 hno hL hB hcont lac la hcell
     go_upto_region 7 with fail
     refine wp_region_gr_tail 15 (by kernel_rfl) (by kernel_rfl) (fun hq1 hq2=>?_)
     simp only [List.take_succ_cons,List.take_zero,List.drop_succ_cons,List.drop_zero]
     repeat (first | go_big_quiet_skip | (go_big_quiet_want;go_big_quiet_op;first | go_big_quiet_on | (apply Exists.intro;refine⟨fun _=>?_,?_⟩;(· (fail));go_big_quiet_on)))
     refine wpQuiet_nil ?_
     clear hq1 hq2
     rintro w1 ⟨⟨_,hg1⟩,rfl⟩
     obtain⟨hc1,hf1⟩:=hg1.cells
     have hz1:=hg1.size
     (try simp at hz1);(try have hl1_0_0:w.heap.size<w1.heap.size:=by omega);(try have hm1_0_0:w.heap.size≤w1.heap.size:=by omega);(try have hl1_0_1:w.heap.size+1<w1.heap.size:=by omega);(try have hl1_0_2:w.heap.size+2<w1.heap.size:=by omega)
     go_wp2
     exact⟨⟨j+1,_,by omega,by simp;omega,by go_num,hno2,hO3.out _ hg1,hL2,((hgx.trans hg1).setCell hgw _)⟩,by simp [RowKit.intOf];omega⟩
    | false=>
     have hcont:j=0∨∃ ini m,ts=ini ++ [m]∧cont m.c cs[j].c=false:=by
      rcases hB.out with ⟨h,_⟩ | ⟨_,h⟩
      ·cases h
      ·exact h
     have HCj:Hid (∀ w',Gr w w'→Calls Tryz.prog 123 #[.agg l.toArray] w' fun e w''=>∃ v',e=.returned (.agg (l.set 21 v').toArray)∧Gr w' w''∧ChR w'' (cs[j].re v')∧∀ base,Far base 81 w'' v'):=Lib.hid fun w' hg'=>by
      have:=rcopy_core 22 rfl cs[j] w' ((hch.out _ (List.getElem_mem c1)).gr hg') (by have:=(hv.out _ (List.getElem_mem c1)).chn.1;omega)
      unfold CM.val at this
      rw [hml.out] at this
      refine this.mono fun e w'' ⟨v',h1,h2,h3,h4,_⟩=>⟨v',?_,h2,h3,h4⟩
      rw [h1,re_cells,hml.out]
     have hl22:l.length=22:=by rw [hlk,← hk22.out]
     have hOw:=hOx.out
     obtain⟨ic,hic,hic0,hic1,hic2⟩:=info_parts infoClip3
     have hk0:¬ k=0:=by rw [← hk22.out];omega
     have hk24:¬ 16777216<k:=by rw [← hk22.out];omega
     clear hB hc0
     go_wp2_with (first
      | (go_at_call 123;(with_reducible refine (HCj.out _ hgx).mono ?_);rintro e w6 ⟨v6,rfl,hg6,hch6,hfar6⟩;have hone6:=hch6.one;rw [re_cells,hml.out] at hone6;have hl6:(l.set 21 v6).length=22:=(by rw [List.length_set,hl22]);have hO7:=hOw.gr hg6;have hsz7:=(hgx.trans hg6).size)
      | (refine wpList_bs1 rfl 35 81 (.tmp 50) rfl 22 (by kernel_rfl) (by kernel_rfl) (by omega) (by omega) (l.set 21 v6) hl6 rfl ?_)
      | (at_builtin;go_loud (refine wpList_append_rd rfl (.tmp 45) (.tmp 51) 35 rfl w.heap.size 81 ic (.agg zClip) 22 216 (by kernel_rfl) hic hic0 hic1 hic2 rfl (by decide) (.slice p9 ts.length c9) ts.length (cflat ts) rfl (hO7.own.alloc _) _ 1 (l.set 21 v6) rfl (Rd.new w6 (l.set 21 v6).toArray 81 1 22 1 (by simpa using hl6)) hone6 ?_ ?_ ?_ ?_);(· unfold maxLen;omega);(· omega);(· simp <;> omega);intro v9 w9 hown9 hgrow9;obtain⟨p10,c10,rfl⟩:=own_shape hown9))
     have hge9:=own_ge hO7.own
     have hgr9:Gr w w9:=((hgx.trans hg6).alloc _).grown hgrow9 hge9
     have hO9:TrO w.heap.size w9 (.slice p10 (ts.length+1) c10) (ts ++ [cs[j].re v6]):=(hO7.gr ((Gr.refl w6).alloc _)).app (cs[j].re v6) (hch6.gr ((Gr.refl w6).alloc _)) ((hfar6 0).gr ((Gr.refl w6).alloc _)) (by rw [re_cells,hml.out];exact hown9) hgrow9
     have hI9:PkR cs (j+1) (ts ++ [cs[j].re v6]) R:=by
      rcases hcont with h0 | ⟨ini,m,hts,hk⟩
      ·subst h0
       exact hno.out.first c1 _ rfl
      ·subst hts
       exact hno.out.new c1 hk _ rfl
     have hL9:PkV cs (j+1) (ts ++ [cs[j].re v6]):=hL.out.new c1 hv.out _ rfl
     exact⟨⟨j+1,_,by omega,by rw [List.length_append];simp;omega,by go_num,Lib.hid hI9,Lib.hid hO9,Lib.hid hL9,hgr9⟩,by simp [RowKit.intOf];omega⟩
  ·have q1:decide ((j:Int)<(cs.length:Int))=false:=decide_eq_false (by omega)
   have hje:j=cs.length:=by omega
   subst hje
   go_wp2
   go_ret
   exact⟨_,ts,rfl,hg,hO.out,hno.out.end,htj⟩
theorem rpack_any (cs:List CM) (v:Value) (w:World) (h:TrR w v cs) (hn:cs.length≤1000000) (hv:∀ c∈cs,VC c.c) (ht:tot (cs.map CM.c)≤2147483647) :
  Calls Tryz.prog 92 #[v] w fun e w'=>∃ v' ts,e=.returned v'∧Gr w w'∧TrO w.heap.size w' v' ts∧ts.map CM.c=pk (cs.map CM.c)∧ts.length≤cs.length:=rpack_core 22 rfl cs v w h hn hv ht
set_option maxHeartbeats 2000000 in
theorem rclean_any (cs:List CM) (v:Value) (w:World) (h:TrR w v cs) (hn:cs.length≤1000000) (hv:∀ c∈cs,VC c.c) (ht:tot (cs.map CM.c)≤2147483647) :
  Calls Tryz.prog 46 #[v] w fun e w'=>∃ v' ts,e=.returned v'∧Gr w w'∧TrR w' v' ts∧ts.map CM.c=cutG (pk (cs.map CM.c))∧ts.length≤cs.length:=by
 have HP:=Lib.hid (rpack_any cs v w h hn hv ht)
 obtain⟨R,hR⟩:∃ R,pk (cs.map CM.c)=R:=⟨_,rfl⟩
 rw [hR] at HP ⊢
 obtain⟨a0,cap0,rfl,-⟩:=h.shape
 clear h hv ht hR
 go_enter Tryz.func46,Tryz.ntmps46
 go_upto_region 2 with (go_at_call 92;(with_reducible refine HP.out.mono ?_);rintro e w1 ⟨v1,ts,rfl,hg1,hO,hP,hl⟩;obtain⟨p,c,rfl⟩:=own_shape hO.own)
 rcases List.eq_nil_or_concat ts with rfl | ⟨ini,m,rfl⟩
 ·go_wp2
  go_ret
  exact⟨_,[],rfl,hg1,hO.read,by rw [← hP];rfl,Nat.zero_le _⟩
 ·rw [List.concat_eq_append] at *
  have hle:(ini ++ [m]).length=ini.length+1:=by simp
  obtain⟨g,rfl⟩:∃ g,p=some ⟨g,0,none⟩:=by
   rcases hO.own.2 with ⟨e,e2⟩ | ⟨g,cap',cur,e,_⟩
   ·injection e with e1 e2 e3
    omega
   ·injection e with e1
    exact⟨g,e1⟩
  have hxg:=(hO.own.lt g rfl).2
  have hcap:ini.length+1≤c:=by
   rcases hO.own.2 with ⟨e,_⟩ | ⟨g',cap',cur,e,_,_,h3,_⟩
   ·cases e
   ·injection e with e1 e2 e3
    omega
  have x1:w1.cell? ⟨g,ini.length * 22+1,none⟩=some (.int .i64 m.c.kind):=by
   rw [hO.own.cellAt _ (by rw [hle];omega),cflat_at _ _ (by rw [hle];omega) 1 (by omega)]
   simp [CM.cells]
  have hcut:cutG ((ini ++ [m]).map CM.c)=if m.c.kind=0 then ini.map CM.c else (ini ++ [m]).map CM.c:=by
   unfold cutG
   simp
  rw [hP] at hcut
  have hnl:((ini.length:Int)+1 - 1)=(ini.length:Int):=by omega
  rw [hle] at hl
  have hrd:=hO.read
  simp only [hle]
  replace hP:=Lib.hid hP
  replace hO:=Lib.hid hO
  replace hrd:=Lib.hid hrd
  by_cases hk:m.c.kind=0
  ·have q1:(m.c.kind == 0)=true:=by simp [hk]
   rw [if_pos hk] at hcut
   replace hcut:=Lib.hid hcut
   replace hk:=Lib.hid hk
   go_wp2
   go_ret
   exact⟨_,ini,rfl,hg1,TrR.take hrd.out (by simp) c,hcut.out.symm,by omega⟩
  ·have q1:(m.c.kind == 0)=false:=by simp [hk]
   rw [if_neg hk,← hP.out] at hcut
   replace hcut:=Lib.hid hcut
   replace hk:=Lib.hid hk
   go_wp2
   go_ret
   exact⟨_,ini ++ [m],rfl,hg1,by have:=hrd.out;rwa [hle] at this,by rw [← hP.out,hcut.out],by rw [hle];omega⟩
end Go.Proofs.YtgbiodnfpbhjiaaGreatDoor
