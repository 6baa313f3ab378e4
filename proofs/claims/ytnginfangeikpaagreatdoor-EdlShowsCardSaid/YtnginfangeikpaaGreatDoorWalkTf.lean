/-
  Contracts: the black source, bounds of rational numbers, valid sources; of package timeline and of the reference.
  Conditions: none.
-/
import Derived.Test.YtnginfangeikpaaGreatDoorClip
import Derived.Test.YtnginfangeikpaaGreatDoorShS
import Derived.Test.YtnginfangeikpaaGreatDoorWalkEe
import Derived.Test.YtnginfangeikpaaGreatDoorWalkF
import Derived.Deep.DeepCutAuto
import Derived.Test.YtnginfangeikpaaGreatDoorWalkTd
namespace Go.Proofs.YtnginfangeikpaaGreatDoor
open Go.RowKit Go.Lib
set_option linter.unusedSimpArgs false
set_option linter.unusedVariables false
theorem ba_toList {a b:ByteArray}:a.toList=b.toList↔a=b:=
 ⟨fun h=>by rw [ByteArray.toList_eq,ByteArray.toList_eq] at h;exact ba_ext h,fun h=>by rw [h]⟩
set_option maxHeartbeats 1000000 in
theorem eq_src (s t:Sr) (w:World):(binOp .eql 59 s.val t.val).run Tryz.prog w=.ok (.bool (decide (s=t))) w:=by
 obtain⟨k,nm,an,ad,sn,sd,sm⟩:=s
 obtain⟨k2,nm2,an2,ad2,sn2,sd2,sm2⟩:=t
 unfold Sr.val
 simp [go_sem,ba_toList]
 repeat' split
 all_goals simp_all
abbrev blkV:Value:=.agg #[.int .i64 0,.string ⟨#[]⟩,.int .i64 0,.int .i64 0,.int .i64 0,.int .i64 0,.bool false]
theorem eq_blk (s:Sr) (w:World):(binOp .eql 59 s.val blkV).run Tryz.prog w=.ok (.bool (decide (s=blkS))) w:=eq_src s blkS w
def bdB (n d m:Int):Bool:=vB n d && (decide (d≤65536) && (decide (-(m * d)≤n) && decide (n≤m * d)))
set_option maxHeartbeats 4000000 in
theorem bounded40 (n d:Int) (w:World) (hn:I64 n) (hd:I64 d):Calls Tryz.prog 114 #[.agg #[.int .i64 n,.int .i64 d],.int .i64 1099511627776] w fun e w'=>e=.returned (.bool (bdB n d 1099511627776))∧Gr w w':=by
 have HV:Hid (∀ w',Calls Tryz.prog 119 #[.agg #[.int .i64 n,.int .i64 d]] w' fun e w''=>e=.returned (.bool (vB n d))∧Gr w' w''):=Lib.hid fun w'=>valid_any n d w' hn hd
 obtain⟨n0,n1⟩:=hn
 obtain⟨d0,d1⟩:=hd
 unfold bdB
 have hbx:=Cel.new w #[.int .i64 n,.int .i64 d] 57
 cases hv:vB n d with
 | false=>
  rw [hv] at HV
  go_enter Tryz.func114,Tryz.ntmps114
  go_wp2_with (go_at_call 119;(with_reducible refine (HV.out _).mono ?_);rintro e w2 ⟨rfl,hg2⟩)
  go_ret
  exact⟨rfl,(by repeat (first | with_reducible exact Gr.refl _ | with_reducible assumption | refine Gr.setCell ?_ (by first | omega | (simp;done) | (simp;omega)) _ | refine Gr.alloc ?_ _ | refine Gr.drew ?_ | refine Gr.drewN ?_ _ | refine Gr.trans ?_ (by with_reducible assumption)))⟩
 | true=>
  rw [hv] at HV
  have hp:1≤d:=by
   unfold vB at hv
   exact (decide_eq_true_iff.1 hv).1
  clear hv
  by_cases h1:d≤65536
  ·have q1:decide (d≤65536)=true:=decide_eq_true h1
   rw [q1]
   go_enter Tryz.func114,Tryz.ntmps114
   go_wp2_with (go_at_call 119;(with_reducible refine (HV.out _).mono ?_);rintro e w2 ⟨rfl,hg2⟩;obtain⟨y0,y1,y2,_⟩:=(hbx.gr hg2).two)
   all_goals
    go_ret
    refine⟨?_,(by repeat (first | with_reducible exact Gr.refl _ | with_reducible assumption | refine Gr.setCell ?_ (by first | omega | (simp;done) | (simp;omega)) _ | refine Gr.alloc ?_ _ | refine Gr.drew ?_ | refine Gr.drewN ?_ _ | refine Gr.trans ?_ (by with_reducible assumption)))⟩
    simp at *
    try omega
  ·have q1:decide (d≤65536)=false:=decide_eq_false h1
   rw [q1]
   go_enter Tryz.func114,Tryz.ntmps114
   go_wp2_with (go_at_call 119;(with_reducible refine (HV.out _).mono ?_);rintro e w2 ⟨rfl,hg2⟩;obtain⟨y0,y1,y2,_⟩:=(hbx.gr hg2).two)
   go_ret
   exact⟨rfl,(by repeat (first | with_reducible exact Gr.refl _ | with_reducible assumption | refine Gr.setCell ?_ (by first | omega | (simp;done) | (simp;omega)) _ | refine Gr.alloc ?_ _ | refine Gr.drew ?_ | refine Gr.drewN ?_ _ | refine Gr.trans ?_ (by with_reducible assumption)))⟩
set_option maxHeartbeats 4000000 in
theorem bounded10 (n d:Int) (w:World) (hn:I64 n) (hd:I64 d):Calls Tryz.prog 114 #[.agg #[.int .i64 n,.int .i64 d],.int .i64 1024] w fun e w'=>e=.returned (.bool (bdB n d 1024))∧Gr w w':=by
 have HV:Hid (∀ w',Calls Tryz.prog 119 #[.agg #[.int .i64 n,.int .i64 d]] w' fun e w''=>e=.returned (.bool (vB n d))∧Gr w' w''):=Lib.hid fun w'=>valid_any n d w' hn hd
 obtain⟨n0,n1⟩:=hn
 obtain⟨d0,d1⟩:=hd
 unfold bdB
 have hbx:=Cel.new w #[.int .i64 n,.int .i64 d] 57
 cases hv:vB n d with
 | false=>
  rw [hv] at HV
  go_enter Tryz.func114,Tryz.ntmps114
  go_wp2_with (go_at_call 119;(with_reducible refine (HV.out _).mono ?_);rintro e w2 ⟨rfl,hg2⟩)
  go_ret
  exact⟨rfl,(by repeat (first | with_reducible exact Gr.refl _ | with_reducible assumption | refine Gr.setCell ?_ (by first | omega | (simp;done) | (simp;omega)) _ | refine Gr.alloc ?_ _ | refine Gr.drew ?_ | refine Gr.drewN ?_ _ | refine Gr.trans ?_ (by with_reducible assumption)))⟩
 | true=>
  rw [hv] at HV
  have hp:1≤d:=by
   unfold vB at hv
   exact (decide_eq_true_iff.1 hv).1
  clear hv
  by_cases h1:d≤65536
  ·have q1:decide (d≤65536)=true:=decide_eq_true h1
   rw [q1]
   go_enter Tryz.func114,Tryz.ntmps114
   go_wp2_with (go_at_call 119;(with_reducible refine (HV.out _).mono ?_);rintro e w2 ⟨rfl,hg2⟩;obtain⟨y0,y1,y2,_⟩:=(hbx.gr hg2).two)
   all_goals
    go_ret
    refine⟨?_,(by repeat (first | with_reducible exact Gr.refl _ | with_reducible assumption | refine Gr.setCell ?_ (by first | omega | (simp;done) | (simp;omega)) _ | refine Gr.alloc ?_ _ | refine Gr.drew ?_ | refine Gr.drewN ?_ _ | refine Gr.trans ?_ (by with_reducible assumption)))⟩
    simp at *
    try omega
  ·have q1:decide (d≤65536)=false:=decide_eq_false h1
   rw [q1]
   go_enter Tryz.func114,Tryz.ntmps114
   go_wp2_with (go_at_call 119;(with_reducible refine (HV.out _).mono ?_);rintro e w2 ⟨rfl,hg2⟩;obtain⟨y0,y1,y2,_⟩:=(hbx.gr hg2).two)
   go_ret
   exact⟨rfl,(by repeat (first | with_reducible exact Gr.refl _ | with_reducible assumption | refine Gr.setCell ?_ (by first | omega | (simp;done) | (simp;omega)) _ | refine Gr.alloc ?_ _ | refine Gr.drew ?_ | refine Gr.drewN ?_ _ | refine Gr.trans ?_ (by with_reducible assumption)))⟩
def chX (x:Int):Bool:=decide (-1≤x∧x≤3)
def chB (xs:List Int):Bool:=decide (xs.length≤4) && xs.all chX
theorem ints_at {xs:List Int} {i:Nat} (h:i<xs.length):(intsV xs)[i]?=some (.int .i64 xs[i]):=by unfold intsV;simp [h]
set_option maxHeartbeats 1000000 in
theorem vchan_any (v:Value) (xs:List Int) (w:World) (h:Rd w v xs.length 1 (intsV xs)):Calls Tryz.prog 83 #[v] w fun e w'=>e=.returned (.bool (chB xs))∧Gr w w':=by
 obtain⟨_,a,cap,rfl,ha⟩:=h
 replace ha:=Lib.hid ha
 unfold chB
 go_enter Tryz.func83,Tryz.ntmps83
 by_cases c6:4<xs.length
 ·have q6:decide (4<(xs.length:Int))=true:=decide_eq_true (by omega)
  rw [decide_eq_false (by omega:¬ xs.length≤4)]
  go_wp2
  go_ret
  exact⟨rfl,(by repeat (first | with_reducible exact Gr.refl _ | with_reducible assumption | refine Gr.setCell ?_ (by first | omega | (simp;done) | (simp;omega)) _ | refine Gr.alloc ?_ _ | refine Gr.drew ?_ | refine Gr.drewN ?_ _ | refine Gr.trans ?_ (by with_reducible assumption)))⟩
 have q6:decide (4<(xs.length:Int))=false:=decide_eq_false (by omega)
 rw [decide_eq_true (by omega:xs.length≤4),Bool.true_and]
 go_wp2
 go_loopw [10] (fun i wr=>∃ j:Nat,j≤xs.length∧i=.int .i64 j∧Hid ((xs.take j).all chX=true)∧Gr w wr) (fun i _=>xs.length - (RowKit.intOf i).toNat)
 case atStart=>exact⟨0,Nat.zero_le _,rfl,Lib.hid rfl,Gr.refl _⟩
 case round=>
  obtain⟨j,hj,rfl,hno,hg⟩:=hrel
  by_cases c1:j<xs.length
  ·have q1:decide ((j:Int)<(xs.length:Int))=true:=decide_eq_true (by omega)
   rcases ha.out with ha2 | ⟨b,o,rfl,hb,hc⟩
   ·omega
   have hx1:b<wr.heap.size:=Nat.lt_of_lt_of_le hb hg.size
   have x0:wr.cell? ⟨b,o+j,none⟩=some (.int .i64 xs[j]):=(hg.cells.1 b _ hb).trans (hc j _ (ints_at c1))
   have hst:=hno.out
   have hall:(xs.take (j+1)).all chX=chX xs[j]:=by
    rw [← List.take_append_getElem c1,List.all_append,hst]
    simp
   have hbad:chX xs[j]=false→xs.all chX=false:=fun e=>by
    rw [List.all_eq_false]
    exact⟨_,List.getElem_mem c1,by rw [e];simp⟩
   generalize xs[j]=x at x0 hall hbad
   clear hc hst hno
   by_cases cx:-1≤x∧x≤3
   ·rw [show chX x=true from decide_eq_true cx] at hall
    obtain⟨c3,c4⟩:=cx
    have hall:=Lib.hid hall
    clear hbad
    go_wp2
    go_roundw
    case rel=>exact⟨j+1,by omega,by go_num,hall,hg⟩
    case measure=>simp [RowKit.intOf];omega
   ·have hbad:=Lib.hid (hbad (decide_eq_false cx))
    clear hall
    by_cases cy:x < -1
    ·have q3:decide (x < -1)=true:=decide_eq_true cy
     go_wp2
     go_ret
     exact⟨by rw [hbad.out];rfl,hg⟩
    ·have q3:decide (x < -1)=false:=decide_eq_false cy
     have q4:decide (3<x)=true:=decide_eq_true (by omega)
     go_wp2
     go_ret
     exact⟨by rw [hbad.out];rfl,hg⟩
  ·have q1:decide ((j:Int)<(xs.length:Int))=false:=decide_eq_false (by omega)
   have hst:=hno.out
   rw [List.take_of_length_le (by omega)] at hst
   have hst:=Lib.hid hst
   go_wp2
   go_ret
   exact⟨by rw [hst.out];rfl,hg⟩
set_option maxHeartbeats 2000000 in
theorem eqI_any (v1 v2:Value) (xs ys:List Int) (w:World) (hn:xs.length≤4611686018427387904) (h1:Rd w v1 xs.length 1 (intsV xs)) (h2:Rd w v2 ys.length 1 (intsV ys)):Calls Tryz.prog 118 #[v1,v2] w fun e w'=>e=.returned (.bool (decide (xs=ys)))∧Gr w w':=by
 obtain⟨_,a,cap,rfl,ha⟩:=h1
 obtain⟨_,a2,cap2,rfl,hb⟩:=h2
 replace ha:=Lib.hid ha
 replace hb:=Lib.hid hb
 go_enter Tryz.func118,Tryz.ntmps118
 by_cases c6:xs.length=ys.length
 ·have q6:(!((xs.length:Int) == (ys.length:Int)))=false:=by simp [c6]
  go_wp2
  go_loopw [13] (fun i wr=>∃ j:Nat,j≤xs.length∧i=.int .i64 j∧Hid (xs.take j=ys.take j)∧Gr w wr) (fun i _=>xs.length - (RowKit.intOf i).toNat)
  case atStart=>exact⟨0,Nat.zero_le _,rfl,Lib.hid rfl,Gr.refl _⟩
  case round=>
   obtain⟨j,hj,rfl,hno,hg⟩:=hrel
   by_cases c1:j<xs.length
   ·have q1:decide ((j:Int)<(xs.length:Int))=true:=decide_eq_true (by omega)
    rcases ha.out with ha2 | ⟨b,o,rfl,hb1,hc1⟩
    ·omega
    rcases hb.out with hb2 | ⟨b2,o2,rfl,hb2,hc2⟩
    ·omega
    have hx1:b<wr.heap.size:=Nat.lt_of_lt_of_le hb1 hg.size
    have hx2:b2<wr.heap.size:=Nat.lt_of_lt_of_le hb2 hg.size
    have x0:wr.cell? ⟨b,o+j,none⟩=some (.int .i64 xs[j]):=(hg.cells.1 b _ hb1).trans (hc1 j _ (ints_at c1))
    have x1:wr.cell? ⟨b2,o2+j,none⟩=some (.int .i64 (ys[j]'(by omega))):=(hg.cells.1 b2 _ hb2).trans (hc2 j _ (ints_at (by omega)))
    have hj2:(0:Int)≤(j:Int)∧(j:Int)<(ys.length:Int):=by omega
    have hall:xs[j]=ys[j]'(by omega)→xs.take (j+1)=ys.take (j+1):=fun e=>by
     rw [← List.take_append_getElem c1,← List.take_append_getElem (show j<ys.length by omega),hno.out,e]
    have hbad:xs[j]≠ys[j]'(by omega)→xs≠ys:=fun e h=>e (by simp [h])
    generalize xs[j]=x at x0 hall hbad
    generalize ys[j]'(by omega)=y at x1 hall hbad
    clear hc1 hc2 hno
    by_cases cx:x=y
    ·have q3:(!(x == y))=false:=by simp [cx]
     have hall:=Lib.hid (hall cx)
     clear hbad
     have cx:=Lib.hid cx
     go_upto_region 6 with fail
     refine wp_region_gr (by kernel_rfl) (by kernel_rfl) (fun hq1 hq2=>?_)
     repeat (first | go_big_quiet_skip | (go_big_quiet_want;go_big_quiet_op;first | go_big_quiet_on | (apply Exists.intro;refine⟨fun _=>?_,?_⟩;(· (fail));go_big_quiet_on)))
     refine wpQuiet_nil ?_
     clear hq1 hq2
     rintro w1 ⟨⟨_,hg1⟩,rfl⟩
     obtain⟨hc1,hf1⟩:=hg1.cells
     have hz1:=hg1.size
     (try simp at hz1);(try have hl1_0_0:w.heap.size<w1.heap.size:=by omega);(try have hm1_0_0:w.heap.size≤w1.heap.size:=by omega);(try have hl1_0_1:w.heap.size+1<w1.heap.size:=by omega);(try have hl1_0_2:w.heap.size+2<w1.heap.size:=by omega)
     go_wp2
     go_roundw
     case rel=>exact⟨j+1,by omega,by go_num,hall,hg.trans hg1⟩
     case measure=>simp [RowKit.intOf];omega
    ·have q3:(!(x == y))=true:=by simpa using cx
     have hbad:=Lib.hid (hbad cx)
     clear hall
     go_upto_region 6 with fail
     refine wp_region_gr (by kernel_rfl) (by kernel_rfl) (fun hq1 hq2=>?_)
     repeat (first | go_big_quiet_skip | (go_big_quiet_want;go_big_quiet_op;first | go_big_quiet_on | (apply Exists.intro;refine⟨fun _=>?_,?_⟩;(· (fail));go_big_quiet_on)))
     refine wpQuiet_nil ?_
     clear hq1 hq2
     rintro w1 ⟨⟨_,hg1⟩,rfl⟩
     obtain⟨hc1,hf1⟩:=hg1.cells
     have hz1:=hg1.size
     (try simp at hz1);(try have hl1_0_0:w.heap.size<w1.heap.size:=by omega);(try have hm1_0_0:w.heap.size≤w1.heap.size:=by omega);(try have hl1_0_1:w.heap.size+1<w1.heap.size:=by omega);(try have hl1_0_2:w.heap.size+2<w1.heap.size:=by omega)
     go_wp2
     go_ret
     exact⟨by rw [decide_eq_false hbad.out];rfl,hg.trans hg1⟩
   ·have q1:decide ((j:Int)<(xs.length:Int))=false:=decide_eq_false (by omega)
    have hst:=hno.out
    rw [List.take_of_length_le (by omega),List.take_of_length_le (by omega)] at hst
    have hst:=Lib.hid hst
    go_wp2
    go_ret
    exact⟨by rw [decide_eq_true hst.out];rfl,hg⟩
 ·have q6:(!((xs.length:Int) == (ys.length:Int)))=true:=by simp;omega
  rw [decide_eq_false (fun e=>c6 (by rw [e]))]
  go_wp2
  go_ret
  exact⟨rfl,(by repeat (first | with_reducible exact Gr.refl _ | with_reducible assumption | refine Gr.setCell ?_ (by first | omega | (simp;done) | (simp;omega)) _ | refine Gr.alloc ?_ _ | refine Gr.drew ?_ | refine Gr.drewN ?_ _ | refine Gr.trans ?_ (by with_reducible assumption)))⟩
set_option maxHeartbeats 1000000 in
theorem divisor_any (x y:Int) (w:World) (hx:0≤x) (hx2:x≤9223372036854775807) (hy:0≤y) (hy2:y≤9223372036854775807) :
  Calls Tryz.prog 115 #[.int .i64 x,.int .i64 y] w fun e w'=>e=.returned (.int .i64 (gc x y))∧Gr w w':=by
 go_enter Tryz.func115,Tryz.ntmps115
 go_wp2
 go_loopw [0,1] (fun a b wr=>∃ p q:Int,0≤p∧p≤9223372036854775807∧0≤q∧q≤9223372036854775807∧a=.int .i64 p∧b=.int .i64 q∧Hid (gc p q=gc x y)∧Gr w wr) (fun _ b _=>(RowKit.intOf b).toNat)
 case atStart=>exact⟨x,y,hx,hx2,hy,hy2,rfl,rfl,rfl,Gr.refl _⟩
 case round=>
  obtain⟨p,q,hp,hp2,hq,hq2,rfl,rfl,hg,hgr⟩:=hrel
  by_cases h0:q=0
  ·subst h0
   go_wp2
   go_ret
   exact⟨ret_int (by rw [← hg.out,gc_zero _ hp]),hgr⟩
  ·have hb:(q != 0)=true:=by simpa using h0
   have hm1:0≤p.tmod q:=Int.tmod_nonneg q hp
   have hm2:p.tmod q<q:=Int.tmod_lt_of_pos p (by omega)
   have hm3:p.tmod q=p % q:=Int.tmod_eq_emod_of_nonneg hp
   go_wp2
   go_region
   go_wp2
   have hno:=Lib.hid ((gc_step p q hp hq).trans hg.out)
   refine⟨⟨q,p % q,hq,hq2,by omega,by omega,rfl,rfl,hno,hgr.drew⟩,by simp [RowKit.intOf];omega⟩
structure SrOk (s:Sr):Prop where
 k:I64 s.k
 nm:s.nm.size≤140737488355328
 an:I64 s.an
 ad:I64 s.ad
 sn:I64 s.sn
 sd:I64 s.sd
def vsB (s:Sr):Bool:=decide (s=blkS) || (decide (s.k=1∨s.k=2) && nmB s.nm && (bdB s.an s.ad 1099511627776 && bdB s.sn s.sd 1024 && decide (s.ad / gc s.ad s.sd * s.sd≤65536)))
theorem bdB_iff {n d m:Int}:bdB n d m=true↔vB n d=true∧d≤65536∧-(m * d)≤n∧n≤m * d:=by
 unfold bdB
 simp only [Bool.and_eq_true,decide_eq_true_eq]
theorem vsB_iff (s:Sr):vsB s=true↔vSr s:=by
 unfold vsB vSr
 simp only [Bool.or_eq_true,Bool.and_eq_true,decide_eq_true_eq,bdB_iff]
 constructor
 ·rintro (h | ⟨⟨h1,h2⟩,⟨⟨h3,h4,h5,h6⟩,⟨h7,h8,h9,h10⟩⟩,h11⟩)
  ·exact .inl h
  ·exact .inr ⟨h1,h2,h3,h7,h4,⟨by omega,h6⟩,h8,⟨by omega,h10⟩,h11⟩
 ·rintro (h | h)
  ·exact .inl h
  ·exact .inr ⟨⟨h.k,h.nm⟩,⟨⟨h.a,h.a1,by have:=h.a2.1;omega,h.a2.2⟩,⟨h.sp,h.s1,by have:=h.s2.1;omega,h.s2.2⟩⟩,h.b⟩
set_option maxRecDepth 20000 in
set_option maxHeartbeats 4000000 in
theorem vsource_any (s:Sr) (w:World) (h:SrOk s):Calls Tryz.prog 84 #[s.val] w fun e w'=>e=.returned (.bool (vsB s))∧Gr w w':=by
 obtain⟨h1,h2,h3,h4,h5,h6⟩:=h
 have he:=eq_blk s
 have HN:Hid (∀ w',Calls Tryz.prog 58 #[.string s.nm] w' fun e w''=>e=.returned (.bool (nmB s.nm))∧Gr w' w''):=Lib.hid fun w'=>validName_any s.nm w' h2
 have HB1:Hid (∀ w',Calls Tryz.prog 114 #[.agg #[.int .i64 s.an,.int .i64 s.ad],.int .i64 1099511627776] w' fun e w''=>e=.returned (.bool (bdB s.an s.ad 1099511627776))∧Gr w' w''):=Lib.hid fun w'=>bounded40 s.an s.ad w' h3 h4
 have HB2:Hid (∀ w',Calls Tryz.prog 114 #[.agg #[.int .i64 s.sn,.int .i64 s.sd],.int .i64 1024] w' fun e w''=>e=.returned (.bool (bdB s.sn s.sd 1024))∧Gr w' w''):=Lib.hid fun w'=>bounded10 s.sn s.sd w' h5 h6
 have hb1:bdB s.an s.ad 1099511627776=true→1≤s.ad∧s.ad≤65536:=fun h=>by
  obtain⟨q1,q2,_⟩:=bdB_iff.1 h
  unfold vB at q1
  exact⟨(decide_eq_true_iff.1 q1).1,q2⟩
 have hb2:bdB s.sn s.sd 1024=true→1≤s.sd∧s.sd≤65536:=fun h=>by
  obtain⟨q1,q2,_⟩:=bdB_iff.1 h
  unfold vB at q1
  exact⟨(decide_eq_true_iff.1 q1).1,q2⟩
 unfold vsB
 obtain⟨Rb,hRb⟩:∃ R,decide (s=blkS)=R:=⟨_,rfl⟩
 rw [hRb] at he ⊢
 obtain⟨k,nm,an,ad,sn,sd,sm⟩:=s
 unfold Sr.val at *
 simp only at he HN HB1 HB2 hb1 hb2 ⊢
 clear hRb h1 h2 h3 h4 h5 h6
 generalize nmB nm=Rn at *
 generalize hR1:bdB an ad 1099511627776=R1 at *
 generalize hR2:bdB sn sd 1024=R2 at *
 clear hR1 hR2
 cases Rb with
 | true=>
  go_enter Tryz.func84,Tryz.ntmps84
  go_wp2
  go_ret
  exact⟨rfl,(by repeat (first | with_reducible exact Gr.refl _ | with_reducible assumption | refine Gr.setCell ?_ (by first | omega | (simp;done) | (simp;omega)) _ | refine Gr.alloc ?_ _ | refine Gr.drew ?_ | refine Gr.drewN ?_ _ | refine Gr.trans ?_ (by with_reducible assumption)))⟩
 | false=>
  have hbx:=Cel.new w #[.int .i64 k,.string nm,.int .i64 an,.int .i64 ad,.int .i64 sn,.int .i64 sd,.bool sm] 59
  by_cases hk:k=1∨k=2
  ·rw [decide_eq_true hk]
   cases Rn with
   | false=>
    rcases hk with rfl | rfl
    all_goals
     go_enter Tryz.func84,Tryz.ntmps84
     go_wp2_with (go_at_call 58;(with_reducible refine (HN.out _).mono ?_);rintro e w2 ⟨rfl,hg2⟩)
     go_ret
     exact⟨rfl,(by repeat (first | with_reducible exact Gr.refl _ | with_reducible assumption | refine Gr.setCell ?_ (by first | omega | (simp;done) | (simp;omega)) _ | refine Gr.alloc ?_ _ | refine Gr.drew ?_ | refine Gr.drewN ?_ _ | refine Gr.trans ?_ (by with_reducible assumption)))⟩
   | true=>
    rcases hk with rfl | rfl
    all_goals
     go_enter Tryz.func84,Tryz.ntmps84
     go_upto_region 5 with (go_at_call 58;(with_reducible refine (HN.out _).mono ?_);rintro e w2 ⟨rfl,hg2⟩)
     have hbx2:=hbx.gr hg2
     have hgw2:Gr w w2:=(by repeat (first | with_reducible exact Gr.refl _ | with_reducible assumption | refine Gr.setCell ?_ (by first | omega | (simp;done) | (simp;omega)) _ | refine Gr.alloc ?_ _ | refine Gr.drew ?_ | refine Gr.drewN ?_ _ | refine Gr.trans ?_ (by with_reducible assumption)))
     have y0:=hbx2.lt
     have y1:=(hbx2.2 2 _ rfl).1
     have y2:=(hbx2.2 3 _ rfl).1
     have y3:=(hbx2.2 4 _ rfl).1
     have y4:=(hbx2.2 5 _ rfl).1
     clear hbx hbx2 HN
     cases R1 with
     | false=>
      refine wp_region_gr (by kernel_rfl) (by kernel_rfl) (fun hq1 hq2=>?_)
      repeat (first | go_big_quiet_skip | (go_big_quiet_want;go_big_quiet_op;first | go_big_quiet_on | (apply Exists.intro;refine⟨fun _=>?_,?_⟩;(· (first | (go_at_call 114;with_reducible exact gr_call (HB1.out _)) | (go_at_call 114;with_reducible exact gr_call (HB2.out _))));go_big_quiet_on)))
      refine wpQuiet_nil ?_
      clear hq1 hq2
      rintro w1 ⟨⟨_,hg1⟩,rfl⟩
      obtain⟨hc1,hf1⟩:=hg1.cells
      have hz1:=hg1.size
      (try simp at hz1);(try have hl1_0_0:w.heap.size<w1.heap.size:=by omega);(try have hm1_0_0:w.heap.size≤w1.heap.size:=by omega);(try have hl1_0_1:w.heap.size+1<w1.heap.size:=by omega);(try have hl1_0_2:w.heap.size+2<w1.heap.size:=by omega)
      go_wp2
      go_ret
      exact⟨rfl,(by repeat (first | with_reducible exact Gr.refl _ | with_reducible assumption | refine Gr.setCell ?_ (by first | omega | (simp;done) | (simp;omega)) _ | refine Gr.alloc ?_ _ | refine Gr.drew ?_ | refine Gr.drewN ?_ _ | refine Gr.trans ?_ (by with_reducible assumption)))⟩
     | true=>
      cases R2 with
      | false=>
       refine wp_region_gr (by kernel_rfl) (by kernel_rfl) (fun hq1 hq2=>?_)
       repeat (first | go_big_quiet_skip | (go_big_quiet_want;go_big_quiet_op;first | go_big_quiet_on | (apply Exists.intro;refine⟨fun _=>?_,?_⟩;(· (first | (go_at_call 114;with_reducible exact gr_call (HB1.out _)) | (go_at_call 114;with_reducible exact gr_call (HB2.out _))));go_big_quiet_on)))
       refine wpQuiet_nil ?_
       clear hq1 hq2
       rintro w1 ⟨⟨_,hg1⟩,rfl⟩
       obtain⟨hc1,hf1⟩:=hg1.cells
       have hz1:=hg1.size
       (try simp at hz1);(try have hl1_0_0:w.heap.size<w1.heap.size:=by omega);(try have hm1_0_0:w.heap.size≤w1.heap.size:=by omega);(try have hl1_0_1:w.heap.size+1<w1.heap.size:=by omega);(try have hl1_0_2:w.heap.size+2<w1.heap.size:=by omega)
       go_wp2
       go_ret
       exact⟨rfl,(by repeat (first | with_reducible exact Gr.refl _ | with_reducible assumption | refine Gr.setCell ?_ (by first | omega | (simp;done) | (simp;omega)) _ | refine Gr.alloc ?_ _ | refine Gr.drew ?_ | refine Gr.drewN ?_ _ | refine Gr.trans ?_ (by with_reducible assumption)))⟩
      | true=>
       obtain⟨a0,a1⟩:=hb1 rfl
       obtain⟨d0,d1⟩:=hb2 rfl
       have hgc:=gc_pos_left ad sd (by omega)
       have HG:Hid (∀ w',Calls Tryz.prog 115 #[.int .i64 ad,.int .i64 sd] w' fun e w''=>e=.returned (.int .i64 (gc ad sd))∧Gr w' w''):=Lib.hid fun w'=>divisor_any ad sd w' (by omega) (by omega) (by omega) (by omega)
       obtain⟨gg,hgg⟩:∃ gg,gc ad sd=gg:=⟨_,rfl⟩
       rw [hgg] at hgc HG
       replace hgg:=Lib.hid hgg
       have t1:Int.tdiv ad gg=ad / gg:=Int.tdiv_eq_ediv_of_nonneg (by omega)
       have t2:0≤ad / gg:=Int.ediv_nonneg (by omega) (by omega)
       have t3:ad / gg≤ad:=Int.ediv_le_self gg (by omega)
       have t4:(gg == 0)=false:=by simp;omega
       obtain⟨qq,hqq⟩:∃ qq,ad / gg=qq:=⟨_,rfl⟩
       rw [hqq] at t1 t2 t3
       replace hqq:=Lib.hid hqq
       have t5:0≤qq * sd:=Int.mul_nonneg t2 (by omega)
       have t6:qq * sd≤65536 * sd:=Int.mul_le_mul_of_nonneg_right (by omega) (by omega)
       have t7:wrap64 (qq * sd)=qq * sd:=by unfold wrap64;omega
       refine wp_region_gr (by kernel_rfl) (by kernel_rfl) (fun hq1 hq2=>?_)
       repeat (first | go_big_quiet_skip | (go_big_quiet_want;go_big_quiet_op;first | go_big_quiet_on | (apply Exists.intro;refine⟨fun _=>?_,?_⟩;(· (first | (go_at_call 114;with_reducible exact gr_call (HB1.out _)) | (go_at_call 114;with_reducible exact gr_call (HB2.out _)) | (go_at_call 115;with_reducible exact gr_call (HG.out _))));go_big_quiet_on)))
       refine wpQuiet_nil ?_
       clear hq1 hq2
       rintro w1 ⟨⟨_,hg1⟩,rfl⟩
       obtain⟨hc1,hf1⟩:=hg1.cells
       have hz1:=hg1.size
       (try simp at hz1);(try have hl1_0_0:w.heap.size<w1.heap.size:=by omega);(try have hm1_0_0:w.heap.size≤w1.heap.size:=by omega);(try have hl1_0_1:w.heap.size+1<w1.heap.size:=by omega);(try have hl1_0_2:w.heap.size+2<w1.heap.size:=by omega)
       go_wp2
       go_ret
       exact⟨by simp [hgg.out,hqq.out],(by repeat (first | with_reducible exact Gr.refl _ | with_reducible assumption | refine Gr.setCell ?_ (by first | omega | (simp;done) | (simp;omega)) _ | refine Gr.alloc ?_ _ | refine Gr.drew ?_ | refine Gr.drewN ?_ _ | refine Gr.trans ?_ (by with_reducible assumption)))⟩
  ·rw [decide_eq_false hk]
   have q1:(k != 1)=true:=by simp;omega
   have q2:(k != 2)=true:=by simp;omega
   go_enter Tryz.func84,Tryz.ntmps84
   go_wp2
   go_ret
   exact⟨rfl,(by repeat (first | with_reducible exact Gr.refl _ | with_reducible assumption | refine Gr.setCell ?_ (by first | omega | (simp;done) | (simp;omega)) _ | refine Gr.alloc ?_ _ | refine Gr.drew ?_ | refine Gr.drewN ?_ _ | refine Gr.trans ?_ (by with_reducible assumption)))⟩
end Go.Proofs.YtnginfangeikpaaGreatDoor
