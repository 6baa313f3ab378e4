/-
  Contracts of validFields, Valid and Simple of package denote.
  Conditions: the expression lies in memory; it is a leaf, or two leaves mixed, and its fields are in range.
-/
import Derived.Test.YtnginfangeikpaaGreatDoorShC
import Derived.Test.YtnginfangeikpaaGreatDoorWalkF
import Derived.Test.YtnginfangeikpaaGreatDoorShS
import Derived.Test.YtnginfangeikpaaGreatDoorMem
import Derived.WalkSpells
import Derived.Defers
import Derived.Recover
namespace Go.Proofs.YtnginfangeikpaaGreatDoor
open Go.RowKit Go.Lib
set_option linter.unusedSimpArgs false
set_option linter.unusedVariables false
set_option maxRecDepth 20000 in
set_option maxHeartbeats 4000000 in
theorem vshare_yes (op num den par:Int) (av:Option Addr) (n c:Nat) (w:World) (h:0<num∧num<den∧den≤2147483648) (hg:gc num den=1) :
  Calls Tryz.prog 106 #[.agg #[.int .i64 op,.string noTxE,.int .i64 0,.int .i64 num,.int .i64 den,.int .i64 par,.string noTxE,.slice av n c]] w fun e w'=>e=.returned (.bool true)∧Gr w w':=by
 have HV:Hid (∀ w,Calls Tryz.prog 119 #[.agg #[.int .i64 num,.int .i64 den]] w fun e w'=>e=.returned (.bool true)∧Gr w w'):=Lib.hid fun w=>by
  have:=valid_any num den w ⟨by omega,by omega⟩ ⟨by omega,by omega⟩
  rwa [vB_true (by omega) (by omega) hg] at this
 have q1:decide (0<num)=true:=decide_eq_true h.1
 have q2:decide (num<den)=true:=decide_eq_true h.2.1
 have q3:decide (den≤2147483648)=true:=decide_eq_true h.2.2
 go_enter Tryz.func106,Tryz.ntmps106
 go_wp2_with (go_at_call 119;(with_reducible refine (HV.out _).mono ?_);rintro e w1 ⟨rfl,hg1⟩)
 go_ret
 exact⟨rfl,(by repeat (first | with_reducible exact Gr.refl _ | with_reducible assumption | refine Gr.setCell ?_ (by first | omega | (simp;done) | (simp;omega)) _ | refine Gr.alloc ?_ _ | refine Gr.drew ?_ | refine Gr.drewN ?_ _ | refine Gr.trans ?_ (by with_reducible assumption)))⟩
set_option maxRecDepth 20000 in
set_option maxHeartbeats 4000000 in
theorem vfields_blk (w:World):Calls Tryz.prog 76 #[.agg (lfC .blk nilE).toArray] w fun e w'=>e=.returned (.bool true)∧Gr w w':=by
 show Calls Tryz.prog 76 #[.agg #[.int .i64 0,.string noTxE,.int .i64 0,.int .i64 0,.int .i64 0,.int .i64 0,.string noTxE,.slice none 0 0]] w _
 go_enter Tryz.func76,Tryz.ntmps76
 go_upto_region 3 with fail
 refine wp_region_gr (by as_aux_lemma=>kernel_rfl) (by as_aux_lemma=>kernel_rfl) (fun hq1 hq2=>?_)
 repeat (first | go_big_quiet_skip | (go_big_quiet_want;go_big_quiet_op;first | go_big_quiet_on | (apply Exists.intro;refine⟨fun _=>?_,?_⟩;(· (fail));go_big_quiet_on)))
 refine wpQuiet_nil ?_
 clear hq1 hq2
 rintro w1 ⟨⟨_,hg1⟩,rfl⟩
 obtain⟨hc1,hf1⟩:=hg1.cells
 have hz1:=hg1.size
 (try simp at hz1);(try have hl1_0_0:w.heap.size<w1.heap.size:=by omega);(try have hm1_0_0:w.heap.size≤w1.heap.size:=by omega);(try have hl1_0_1:w.heap.size+1<w1.heap.size:=by omega);(try have hl1_0_2:w.heap.size+2<w1.heap.size:=by omega)
 go_wp2
 go_ret
 exact⟨rfl,(by repeat (first | with_reducible exact Gr.refl _ | with_reducible assumption | refine Gr.setCell ?_ (by first | omega | (simp;done) | (simp;omega)) _ | refine Gr.alloc ?_ _ | refine Gr.drew ?_ | refine Gr.drewN ?_ _ | refine Gr.trans ?_ (by with_reducible assumption)))⟩
set_option maxRecDepth 20000 in
set_option maxHeartbeats 4000000 in
theorem vfields_src (r:ByteArray) (n:Int) (w:World) (HN:Hid (∀ w',Calls Tryz.prog 58 #[.string r] w' fun e w''=>e=.returned (.bool true)∧Gr w' w'')) (h:0≤n∧n≤2147483646) :
  Calls Tryz.prog 76 #[.agg (lfC (.src r n) nilE).toArray] w fun e w'=>e=.returned (.bool true)∧Gr w w':=by
 show Calls Tryz.prog 76 #[.agg #[.int .i64 1,.string r,.int .i64 n,.int .i64 0,.int .i64 0,.int .i64 0,.string noTxE,.slice none 0 0]] w _
 have q1:decide (0≤n)=true:=decide_eq_true h.1
 have q2:decide (n≤2147483646)=true:=decide_eq_true h.2
 obtain⟨B,hB⟩:∃ B,r.toList.isEmpty=B:=⟨_,rfl⟩
 obtain⟨B2,hB2⟩:∃ B2,(n == 0)=B2:=⟨_,rfl⟩
 have hbx:=Blk.new w [.int .i64 1,.string r,.int .i64 n,.int .i64 0,.int .i64 0,.int .i64 0,.string noTxE,.slice none 0 0] 41
 cases B <;> cases B2
 ·go_enter Tryz.func76,Tryz.ntmps76
  go_upto_region 3 with fail
  refine wp_region_gr (by as_aux_lemma=>kernel_rfl) (by as_aux_lemma=>kernel_rfl) (fun hq1 hq2=>?_)
  repeat (first | go_big_quiet_skip | (go_big_quiet_want;go_big_quiet_op;first | go_big_quiet_on | (apply Exists.intro;refine⟨fun _=>?_,?_⟩;(· (fail));go_big_quiet_on)))
  refine wpQuiet_nil ?_
  clear hq1 hq2
  rintro w1 ⟨⟨_,hg1⟩,rfl⟩
  obtain⟨hc1,hf1⟩:=hg1.cells
  have hz1:=hg1.size
  (try simp at hz1);(try have hl1_0_0:w.heap.size<w1.heap.size:=by omega);(try have hm1_0_0:w.heap.size≤w1.heap.size:=by omega);(try have hl1_0_1:w.heap.size+1<w1.heap.size:=by omega);(try have hl1_0_2:w.heap.size+2<w1.heap.size:=by omega)
  have hb1:=hbx.gr hg1
  go_wp2_with (go_at_call 58;(with_reducible refine (HN.out _).mono ?_);rintro e w2 ⟨rfl,hg2⟩;have hb2:=hb1.gr hg2;have y0:=hb2.lt;have y1:=(hb2.cel.2 2 _ rfl).1;have y2:=(hb2.cel.2 7 _ rfl).1)
  go_ret
  exact⟨rfl,(by repeat (first | with_reducible exact Gr.refl _ | with_reducible assumption | refine Gr.setCell ?_ (by first | omega | (simp;done) | (simp;omega)) _ | refine Gr.alloc ?_ _ | refine Gr.drew ?_ | refine Gr.drewN ?_ _ | refine Gr.trans ?_ (by with_reducible assumption)))⟩
 ·go_enter Tryz.func76,Tryz.ntmps76
  go_upto_region 3 with fail
  refine wp_region_gr (by as_aux_lemma=>kernel_rfl) (by as_aux_lemma=>kernel_rfl) (fun hq1 hq2=>?_)
  repeat (first | go_big_quiet_skip | (go_big_quiet_want;go_big_quiet_op;first | go_big_quiet_on | (apply Exists.intro;refine⟨fun _=>?_,?_⟩;(· (fail));go_big_quiet_on)))
  refine wpQuiet_nil ?_
  clear hq1 hq2
  rintro w1 ⟨⟨_,hg1⟩,rfl⟩
  obtain⟨hc1,hf1⟩:=hg1.cells
  have hz1:=hg1.size
  (try simp at hz1);(try have hl1_0_0:w.heap.size<w1.heap.size:=by omega);(try have hm1_0_0:w.heap.size≤w1.heap.size:=by omega);(try have hl1_0_1:w.heap.size+1<w1.heap.size:=by omega);(try have hl1_0_2:w.heap.size+2<w1.heap.size:=by omega)
  have hb1:=hbx.gr hg1
  go_wp2_with (go_at_call 58;(with_reducible refine (HN.out _).mono ?_);rintro e w2 ⟨rfl,hg2⟩;have hb2:=hb1.gr hg2;have y0:=hb2.lt;have y1:=(hb2.cel.2 2 _ rfl).1;have y2:=(hb2.cel.2 7 _ rfl).1)
  go_ret
  exact⟨rfl,(by repeat (first | with_reducible exact Gr.refl _ | with_reducible assumption | refine Gr.setCell ?_ (by first | omega | (simp;done) | (simp;omega)) _ | refine Gr.alloc ?_ _ | refine Gr.drew ?_ | refine Gr.drewN ?_ _ | refine Gr.trans ?_ (by with_reducible assumption)))⟩
 ·go_enter Tryz.func76,Tryz.ntmps76
  go_upto_region 3 with fail
  refine wp_region_gr (by as_aux_lemma=>kernel_rfl) (by as_aux_lemma=>kernel_rfl) (fun hq1 hq2=>?_)
  repeat (first | go_big_quiet_skip | (go_big_quiet_want;go_big_quiet_op;first | go_big_quiet_on | (apply Exists.intro;refine⟨fun _=>?_,?_⟩;(· (fail));go_big_quiet_on)))
  refine wpQuiet_nil ?_
  clear hq1 hq2
  rintro w1 ⟨⟨_,hg1⟩,rfl⟩
  obtain⟨hc1,hf1⟩:=hg1.cells
  have hz1:=hg1.size
  (try simp at hz1);(try have hl1_0_0:w.heap.size<w1.heap.size:=by omega);(try have hm1_0_0:w.heap.size≤w1.heap.size:=by omega);(try have hl1_0_1:w.heap.size+1<w1.heap.size:=by omega);(try have hl1_0_2:w.heap.size+2<w1.heap.size:=by omega)
  have hb1:=hbx.gr hg1
  go_wp2_with (go_at_call 58;(with_reducible refine (HN.out _).mono ?_);rintro e w2 ⟨rfl,hg2⟩;have hb2:=hb1.gr hg2;have y0:=hb2.lt;have y1:=(hb2.cel.2 2 _ rfl).1;have y2:=(hb2.cel.2 7 _ rfl).1)
  go_ret
  exact⟨rfl,(by repeat (first | with_reducible exact Gr.refl _ | with_reducible assumption | refine Gr.setCell ?_ (by first | omega | (simp;done) | (simp;omega)) _ | refine Gr.alloc ?_ _ | refine Gr.drew ?_ | refine Gr.drewN ?_ _ | refine Gr.trans ?_ (by with_reducible assumption)))⟩
 ·go_enter Tryz.func76,Tryz.ntmps76
  go_upto_region 3 with fail
  refine wp_region_gr (by as_aux_lemma=>kernel_rfl) (by as_aux_lemma=>kernel_rfl) (fun hq1 hq2=>?_)
  repeat (first | go_big_quiet_skip | (go_big_quiet_want;go_big_quiet_op;first | go_big_quiet_on | (apply Exists.intro;refine⟨fun _=>?_,?_⟩;(· (fail));go_big_quiet_on)))
  refine wpQuiet_nil ?_
  clear hq1 hq2
  rintro w1 ⟨⟨_,hg1⟩,rfl⟩
  obtain⟨hc1,hf1⟩:=hg1.cells
  have hz1:=hg1.size
  (try simp at hz1);(try have hl1_0_0:w.heap.size<w1.heap.size:=by omega);(try have hm1_0_0:w.heap.size≤w1.heap.size:=by omega);(try have hl1_0_1:w.heap.size+1<w1.heap.size:=by omega);(try have hl1_0_2:w.heap.size+2<w1.heap.size:=by omega)
  have hb1:=hbx.gr hg1
  go_wp2_with (go_at_call 58;(with_reducible refine (HN.out _).mono ?_);rintro e w2 ⟨rfl,hg2⟩;have hb2:=hb1.gr hg2;have y0:=hb2.lt;have y1:=(hb2.cel.2 2 _ rfl).1;have y2:=(hb2.cel.2 7 _ rfl).1)
  go_ret
  exact⟨rfl,(by repeat (first | with_reducible exact Gr.refl _ | with_reducible assumption | refine Gr.setCell ?_ (by first | omega | (simp;done) | (simp;omega)) _ | refine Gr.alloc ?_ _ | refine Gr.drew ?_ | refine Gr.drewN ?_ _ | refine Gr.trans ?_ (by with_reducible assumption)))⟩
set_option maxRecDepth 20000 in
set_option maxHeartbeats 4000000 in
theorem vfields_mx (op num den par:Int) (a:Option Addr) (c:Nat) (w:World) (ho:(op=2∧par=0)∨(op=3∧0≤par∧par≤3)) (h:0<num∧num<den∧den≤2147483648) (hg:gc num den=1) :
  Calls Tryz.prog 76 #[.agg (exC op noTxE 0 num den par noTxE (.slice a 2 c)).toArray] w fun e w'=>e=.returned (.bool true)∧Gr w w':=by
 show Calls Tryz.prog 76 #[.agg #[.int .i64 op,.string noTxE,.int .i64 0,.int .i64 num,.int .i64 den,.int .i64 par,.string noTxE,.slice a 2 c]] w _
 have HS:Hid (∀ w',Calls Tryz.prog 106 #[.agg #[.int .i64 op,.string noTxE,.int .i64 0,.int .i64 num,.int .i64 den,.int .i64 par,.string noTxE,.slice a 2 c]] w' fun e w''=>e=.returned (.bool true)∧Gr w' w''):=Lib.hid fun w'=>vshare_yes op num den par a 2 c w' h hg
 have q1:(num == 0)=false:=by simp;omega
 have hbx:=Blk.new w [.int .i64 op,.string noTxE,.int .i64 0,.int .i64 num,.int .i64 den,.int .i64 par,.string noTxE,.slice a 2 c] 41
 rcases ho with ⟨rfl,rfl⟩ | ⟨rfl,h3,h4⟩
 ·go_enter Tryz.func76,Tryz.ntmps76
  go_upto_region 3 with fail
  refine wp_region_gr (by as_aux_lemma=>kernel_rfl) (by as_aux_lemma=>kernel_rfl) (fun hq1 hq2=>?_)
  repeat (first | go_big_quiet_skip | (go_big_quiet_want;go_big_quiet_op;first | go_big_quiet_on | (apply Exists.intro;refine⟨fun _=>?_,?_⟩;(· (fail));go_big_quiet_on)))
  refine wpQuiet_nil ?_
  clear hq1 hq2
  rintro w1 ⟨⟨_,hg1⟩,rfl⟩
  obtain⟨hc1,hf1⟩:=hg1.cells
  have hz1:=hg1.size
  (try simp at hz1);(try have hl1_0_0:w.heap.size<w1.heap.size:=by omega);(try have hm1_0_0:w.heap.size≤w1.heap.size:=by omega);(try have hl1_0_1:w.heap.size+1<w1.heap.size:=by omega);(try have hl1_0_2:w.heap.size+2<w1.heap.size:=by omega)
  have hb1:=hbx.gr hg1
  go_wp2_with (go_at_call 106;(with_reducible refine (HS.out _).mono ?_);rintro e w2 ⟨rfl,hg2⟩;have hb2:=hb1.gr hg2;have y0:=hb2.lt;have y1:=(hb2.cel.2 5 _ rfl).1;have y2:=(hb2.cel.2 7 _ rfl).1)
  go_ret
  exact⟨rfl,(by repeat (first | with_reducible exact Gr.refl _ | with_reducible assumption | refine Gr.setCell ?_ (by first | omega | (simp;done) | (simp;omega)) _ | refine Gr.alloc ?_ _ | refine Gr.drew ?_ | refine Gr.drewN ?_ _ | refine Gr.trans ?_ (by with_reducible assumption)))⟩
 ·have q2:decide (0≤par)=true:=decide_eq_true h3
  have q3:decide (par≤3)=true:=decide_eq_true h4
  obtain⟨B,hB⟩:∃ B,(par == 0)=B:=⟨_,rfl⟩
  cases B
  ·go_enter Tryz.func76,Tryz.ntmps76
   go_upto_region 3 with fail
   refine wp_region_gr (by as_aux_lemma=>kernel_rfl) (by as_aux_lemma=>kernel_rfl) (fun hq1 hq2=>?_)
   repeat (first | go_big_quiet_skip | (go_big_quiet_want;go_big_quiet_op;first | go_big_quiet_on | (apply Exists.intro;refine⟨fun _=>?_,?_⟩;(· (fail));go_big_quiet_on)))
   refine wpQuiet_nil ?_
   clear hq1 hq2
   rintro w1 ⟨⟨_,hg1⟩,rfl⟩
   obtain⟨hc1,hf1⟩:=hg1.cells
   have hz1:=hg1.size
   (try simp at hz1);(try have hl1_0_0:w.heap.size<w1.heap.size:=by omega);(try have hm1_0_0:w.heap.size≤w1.heap.size:=by omega);(try have hl1_0_1:w.heap.size+1<w1.heap.size:=by omega);(try have hl1_0_2:w.heap.size+2<w1.heap.size:=by omega)
   have hb1:=hbx.gr hg1
   go_wp2_with (go_at_call 106;(with_reducible refine (HS.out _).mono ?_);rintro e w2 ⟨rfl,hg2⟩;have hb2:=hb1.gr hg2;have y0:=hb2.lt;have y1:=(hb2.cel.2 5 _ rfl).1;have y2:=(hb2.cel.2 7 _ rfl).1)
   go_ret
   exact⟨rfl,(by repeat (first | with_reducible exact Gr.refl _ | with_reducible assumption | refine Gr.setCell ?_ (by first | omega | (simp;done) | (simp;omega)) _ | refine Gr.alloc ?_ _ | refine Gr.drew ?_ | refine Gr.drewN ?_ _ | refine Gr.trans ?_ (by with_reducible assumption)))⟩
  ·go_enter Tryz.func76,Tryz.ntmps76
   go_upto_region 3 with fail
   refine wp_region_gr (by as_aux_lemma=>kernel_rfl) (by as_aux_lemma=>kernel_rfl) (fun hq1 hq2=>?_)
   repeat (first | go_big_quiet_skip | (go_big_quiet_want;go_big_quiet_op;first | go_big_quiet_on | (apply Exists.intro;refine⟨fun _=>?_,?_⟩;(· (fail));go_big_quiet_on)))
   refine wpQuiet_nil ?_
   clear hq1 hq2
   rintro w1 ⟨⟨_,hg1⟩,rfl⟩
   obtain⟨hc1,hf1⟩:=hg1.cells
   have hz1:=hg1.size
   (try simp at hz1);(try have hl1_0_0:w.heap.size<w1.heap.size:=by omega);(try have hm1_0_0:w.heap.size≤w1.heap.size:=by omega);(try have hl1_0_1:w.heap.size+1<w1.heap.size:=by omega);(try have hl1_0_2:w.heap.size+2<w1.heap.size:=by omega)
   have hb1:=hbx.gr hg1
   go_wp2_with (go_at_call 106;(with_reducible refine (HS.out _).mono ?_);rintro e w2 ⟨rfl,hg2⟩;have hb2:=hb1.gr hg2;have y0:=hb2.lt;have y1:=(hb2.cel.2 5 _ rfl).1;have y2:=(hb2.cel.2 7 _ rfl).1)
   go_ret
   exact⟨rfl,(by repeat (first | with_reducible exact Gr.refl _ | with_reducible assumption | refine Gr.setCell ?_ (by first | omega | (simp;done) | (simp;omega)) _ | refine Gr.alloc ?_ _ | refine Gr.drew ?_ | refine Gr.drewN ?_ _ | refine Gr.trans ?_ (by with_reducible assumption)))⟩
end Go.Proofs.YtnginfangeikpaaGreatDoor

namespace Go.Proofs.YtnginfangeikpaaGreatDoor
open Go.RowKit Go.Lib
set_option linter.unusedSimpArgs false
set_option linter.unusedVariables false
theorem hmf_any (P:Program):∀ (fn:Fn) (first cap:Array Value) (w:World),(Instr.makeFunc fn first cap).run P w=.ok (.func fn first cap) w:=fun _ _ _ _=>rfl
end Go.Proofs.YtnginfangeikpaaGreatDoor

namespace Go.Proofs.YtnginfangeikpaaGreatDoor
open Go.RowKit Go.Lib
set_option linter.unusedSimpArgs false
set_option linter.unusedVariables false
def LfV (l:Lf):Prop:=∀ w',Calls Tryz.prog 76 #[.agg (lfC l nilE).toArray] w' fun e w''=>e=.returned (.bool true)∧Gr w' w''
set_option maxRecDepth 20000 in
set_option maxHeartbeats 4000000 in
theorem dvalid_lf (k:Nat) (hk8:8=k) (l:List Value) (hl:l.length=8) (h7:l[7]?=some nilE) (HF:Hid (∀ w',Calls Tryz.prog 76 #[.agg l.toArray] w' fun e w''=>e=.returned (.bool true)∧Gr w' w'')) (w:World) :
  Calls Tryz.prog 45 #[.agg l.toArray] w fun e w'=>e=.returned (.bool true)∧Gr w w':=by
 have aE:∀ w,(isAgg 41).run Tryz.prog w=.ok true w:=Tryz.isAgg41
 have zE:∀ w,(Go.sizeOf 41).run Tryz.prog w=.ok k w:=fun w=>by rw [← hk8];exact Tryz.sizeOf41 w
 have hlk:l.length=k:=by rw [hl,hk8]
 have hbA:=Blk.new w l 41
 have hg0:Gr w (w.alloc (.cells l.toArray 41)):=(Gr.refl w).alloc _
 replace hk8:=Lib.hid hk8
 replace hl:=Lib.hid hl
 go_enter Tryz.func45,Tryz.ntmps45
 go_upto_region 1 with fail
 generalize w.alloc (.cells l.toArray 41)=W at *
 have z0:=hbA.lt
 have z1:=(hbA.cel.2 7 _ h7).1
 have ld:=ldB hlk hbA
 go_wp2_with (go_at_call 76;(with_reducible refine (HF.out _).mono ?_);rintro e w1 ⟨rfl,hg1⟩;have hA1:=hbA.gr hg1;have y0:=hA1.lt;have y1:=(hA1.cel.2 7 _ h7).1)
 go_loopw [11] (fun i wr=>i=.int .i64 0∧w1=wr) (fun _ _=>0)
 case atStart=>exact⟨rfl,rfl⟩
 case round=>
  obtain⟨rfl,rfl⟩:=hrel
  go_wp2
  go_ret
  exact⟨rfl,hg0.trans hg1⟩
set_option maxRecDepth 20000 in
set_option maxHeartbeats 4000000 in
theorem dvalid_core (k:Nat) (hk8:8=k) (l lx ly:List Value) (ba oa c:Nat) (w:World) (hl:l.length=8) (h7:l[7]?=some (.slice (some ⟨ba,oa,none⟩) 2 c)) (hba:ba<w.heap.size)
  (hx8:lx.length=8) (hy8:ly.length=8) (hxo:∀ v∈lx,v.oneCell'=true) (hyo:∀ v∈ly,v.oneCell'=true) (hx7:lx[7]?=some nilE) (hy7:ly[7]?=some nilE)
  (ca1:∀ (j:Nat) u,lx[j]?=some u→w.cell? ⟨ba,oa+j,none⟩=some u) (ca2:∀ (j:Nat) u,ly[j]?=some u→w.cell? ⟨ba,oa+8+j,none⟩=some u)
  (HF:Hid (∀ w',Calls Tryz.prog 76 #[.agg l.toArray] w' fun e w''=>e=.returned (.bool true)∧Gr w' w''))
  (HX:Hid (∀ w',Calls Tryz.prog 76 #[.agg lx.toArray] w' fun e w''=>e=.returned (.bool true)∧Gr w' w''))
  (HY:Hid (∀ w',Calls Tryz.prog 76 #[.agg ly.toArray] w' fun e w''=>e=.returned (.bool true)∧Gr w' w'')) :
  Calls Tryz.prog 45 #[.agg l.toArray] w fun e w'=>e=.returned (.bool true)∧Gr w w':=by
 have aE:∀ w,(isAgg 41).run Tryz.prog w=.ok true w:=Tryz.isAgg41
 have zE:∀ w,(Go.sizeOf 41).run Tryz.prog w=.ok k w:=fun w=>by rw [← hk8];exact Tryz.sizeOf41 w
 have hlk:l.length=k:=by rw [hl,hk8]
 have hbA:=Blk.new w l 41
 have hg0:Gr w (w.alloc (.cells l.toArray 41)):=(Gr.refl w).alloc _
 have hcell:Hid (∀ i:Nat,i<2→∃ z:List Value,z.length=8∧z[7]?=some nilE∧(∀ v∈z,v.oneCell'=true)∧(∀ (j:Nat) q,z[j]?=some q→w.cell? ⟨ba,oa+i * k+j,none⟩=some q)∧Hid (∀ w',Calls Tryz.prog 76 #[.agg z.toArray] w' fun e w''=>e=.returned (.bool true)∧Gr w' w'')):=Lib.hid fun i hi=>by
  rw [← hk8]
  rcases (show i=0∨i=1 by omega) with rfl | rfl
  ·exact⟨lx,hx8,hx7,hxo,by simpa using ca1,HX⟩
  ·exact⟨ly,hy8,hy7,hyo,by simpa using ca2,HY⟩
 replace hk8:=Lib.hid hk8
 replace hl:=Lib.hid hl
 clear ca1 ca2 hx8 hy8 hx7 hy7 hxo hyo HX HY
 go_enter Tryz.func45,Tryz.ntmps45
 go_upto_region 1 with fail
 generalize w.alloc (.cells l.toArray 41)=W at *
 have z0:=hbA.lt
 have z1:=(hbA.cel.2 7 _ h7).1
 have ld:=ldB hlk hbA
 go_wp2_with (go_at_call 76;(with_reducible refine (HF.out _).mono ?_);rintro e w1 ⟨rfl,hg1⟩;have hA1:=hbA.gr hg1;have y0:=hA1.lt;have y1:=(hA1.cel.2 7 _ h7).1)
 have hgw1:=hg0.trans hg1
 clear hbA z0 z1 ld hA1 y0 y1
 go_loopw [11] (fun i wr=>∃ j:Nat,j≤2∧i=.int .i64 j∧Gr w wr) (fun i _=>2 - (RowKit.intOf i).toNat)
 case atStart=>exact⟨0,by omega,rfl,hgw1⟩
 case round=>
  obtain⟨j,hj,rfl,hg⟩:=hrel
  by_cases cc:j<2
  ·have q1:decide ((j:Int)<2)=true:=decide_eq_true (by omega)
   have i1:(0:Int)≤(j:Int)∧(j:Int)<2:=by omega
   obtain⟨z,hz8,hz7,hzo,hzc,hzF⟩:=hcell.out j cc
   have hV:Hid (∀ w',Calls Tryz.prog 45 #[.agg z.toArray] w' fun e w''=>e=.returned (.bool true)∧Gr w' w''):=Lib.hid fun w'=>dvalid_lf 8 rfl z hz8 hz7 hzF w'
   have hzk:z.length=k:=by rw [hz8,hk8.out]
   have la1:Sem.run Tryz.prog (loadCellsFrom ⟨ba,oa+j * k,none⟩ 0 k #[]) wr=.ok z.toArray wr:=ldE hzk fun y u hu=>(hg.cells.1 ba _ hba).trans (hzc y u hu)
   have st1:=stE wr z hz8 hzo
   have hbx:=Blk.new wr z 41
   have hgA:Gr wr (wr.alloc (.cells z.toArray 41)):=(Gr.refl wr).alloc _
   have hba':ba<wr.heap.size:=Nat.lt_of_lt_of_le hba hg.size
   replace hz8:=Lib.hid hz8
   clear hz7 hzF
   go_upto_region 6 with fail
   generalize wr.alloc (.cells z.toArray 41)=W1 at *
   obtain⟨X,hX⟩:∃ X,wr.heap.size=X:=⟨_,rfl⟩
   rw [hX] at hbx ⊢
   clear la1 st1 hX
   have lb1:=ldB hzk hbx
   go_wp2_with (go_at_call 45;(with_reducible refine (hV.out _).mono ?_);rintro e w3 ⟨rfl,hg3⟩)
   go_roundw
   case rel=>exact⟨j+1,by omega,by go_num,(hg.trans hgA).trans hg3⟩
   case measure=>simp [RowKit.intOf];omega
  ·have q1:decide ((j:Int)<2)=false:=decide_eq_false (by omega)
   go_wp2
   go_ret
   exact⟨rfl,hg⟩
theorem dvalid_mx (op num den par:Int) (x y:Lf) (a:Option Addr) (c:Nat) (w:World) (ho:(op=2∧par=0)∨(op=3∧0≤par∧par≤3)) (h:0<num∧num<den∧den≤2147483648) (hg:gc num den=1) (hx:LfV x) (hy:LfV y)
  (hA:Rd w (.slice a 2 c) 2 8 (lfC x nilE ++ lfC y nilE)) :
  Calls Tryz.prog 45 #[.agg (exC op noTxE 0 num den par noTxE (.slice a 2 c)).toArray] w fun e w'=>e=.returned (.bool true)∧Gr w w':=by
 obtain⟨ba,oa,rfl,hba,ca1,ca2⟩:=mx_cells hA
 exact dvalid_core 8 rfl _ (lfC x nilE) (lfC y nilE) ba oa c w rfl rfl hba rfl rfl (exC_one _ _ _ _ _ _ _ _ _ _) (exC_one _ _ _ _ _ _ _ _ _ _) rfl rfl ca1 ca2 (Lib.hid fun w'=>vfields_mx op num den par _ c w' ho h hg) (Lib.hid hx) (Lib.hid hy)
theorem simpleD_idle (p:Addr) (w:World) :
  CallsD Tryz.prog 44 #[.pointer (some p)] .returning w fun e u' w'=>e=.returned (.tuple #[])∧u'=.returning∧w'=w:=by
 refine callsD_of_wpS Tryz.func44 rfl fun c₀ cs hu=>?_
 apply wpS_seq
 apply wpS_region
 simp [wpOpsS,go_sem,recoverD,hu,Tryz.ntmps44,Exit.thenS]
 refine wpS_cond (t:=false) (by simp [Act.eval,Array.replicate]) ?_
 simp only [Bool.false_eq_true,if_false]
 refine wpS_of_wp (wp_skip ?_)
 cases c₀
 simp_all [bodyPostS,results,Tryz.results44]
set_option maxRecDepth 20000 in
set_option maxHeartbeats 4000000 in
theorem dsimple_core (k:Nat) (hk8:8=k) (l:List Value) (X:Ex2) (w:World) (hl:l.length=8) (hone:∀ v∈l,v.oneCell'=true)
  (HV:Hid (∀ w',Gr w w'→Calls Tryz.prog 45 #[.agg l.toArray] w' fun e w''=>e=.returned (.bool true)∧Gr w' w''))
  (HS:Hid (∀ w',Gr w w'→Calls Tryz.prog 46 #[.agg l.toArray] w' fun e w''=>∃ cs,e=.returned (.agg cs.toArray)∧Gr w' w''∧ExF w'.heap.size w'' cs X)) :
  Calls Tryz.prog 23 #[.agg l.toArray] w fun e w'=>∃ cs,e=.returned (.agg cs.toArray)∧Gr w w'∧ExF w.heap.size w' cs X:=by
 have hmf:=hmf_any Tryz.prog
 have aE:∀ w,(isAgg 41).run Tryz.prog w=.ok true w:=Tryz.isAgg41
 have zE:∀ w,(Go.sizeOf 41).run Tryz.prog w=.ok k w:=fun w=>by rw [← hk8];exact Tryz.sizeOf41 w
 have hlk:l.length=k:=by rw [hl,hk8]
 have hbA:=(Blk.new w l 41).gr ((Gr.refl _).alloc (.cells zeroEx.toArray 41))
 have hbB:=Blk.new (w.alloc (.cells l.toArray 41)) zeroEx 41
 have hg0:Gr w ((w.alloc (.cells l.toArray 41)).alloc (.cells zeroEx.toArray 41)):=((Gr.refl w).alloc _).alloc _
 replace hk8:=Lib.hid hk8
 replace hl:=Lib.hid hl
 go_enter_defers Tryz.func23,Tryz.ntmps23
 go_upto_region 2 with fail
 unfold zeroEx at hbA hbB hg0
 generalize (w.alloc (.cells l.toArray 41)).alloc (.cells #[.int .i64 0,.string ⟨#[]⟩,.int .i64 0,.int .i64 0,.int .i64 0,.int .i64 0,.string ⟨#[]⟩,.slice none 0 0] 41)=W at *
 rw [World.size_alloc] at hbB
 have hWs:w.heap.size+1<W.heap.size:=hbB.lt
 have z0:=hbA.lt
 have ld:=ldB hlk hbA
 go_wp2_with (first
  | (go_at_call 45;(with_reducible refine (HV.out _ hg0).mono ?_);rintro e w1 ⟨rfl,hg1⟩;have hA1:=hbA.gr hg1;have hgw1:=hg0.trans hg1;have y0:=hA1.lt;have ld1:=ldB hlk hA1)
  | (go_at_call 46;(with_reducible refine (HS.out _ hgw1).mono ?_);rintro e w2 ⟨rs,rfl,hg2,hx2⟩;have hB2:=(hbB.gr hg1).gr hg2;have hrk:rs.length=k:=(by rw [hx2.r.len,hk8.out]);have st:=stB hB2 hx2.r.len hx2.r.one))
 have hb3:=blk_set hB2 rs
 have ld3:=ldB hrk hb3
 have hz1:=hg1.size
 have hx3:=(hx2.less (b2:=w.heap.size+1+1) (by omega)).setRow (k:=w.heap.size+1) (by omega) rs.toArray
 have hx4:=hx3.less (b2:=w.heap.size) (by omega)
 have hg3:=gr_setRow (hgw1.trans hg2) (g:=w.heap.size+1) (by omega) rs.toArray
 refine leaves_cons (f:=44) (args:=#[.pointer (some ⟨w.heap.size+1,0,none⟩)]) (by simp) (by simp [go_sem]) ?_
 refine (simpleD_idle _ _).mono ?_
 rintro e u' w'' ⟨rfl,rfl,rfl⟩
 simp [Leaves,settle,results,Tryz.results23,go_sem,aE,zE,ld3]
 exact⟨hg3,hx4⟩
theorem dsimple_mx (op num den par:Int) (x y:Lf) (a:Option Addr) (c:Nat) (w:World) (ho:(op=2∧par=0)∨(op=3∧0≤par∧par≤3)) (h:0<num∧num<den∧den≤2147483648) (hg:gc num den=1) (hx:LfV x) (hy:LfV y)
  (hA:Rd w (.slice a 2 c) 2 8 (lfC x nilE ++ lfC y nilE)) :
  Calls Tryz.prog 23 #[.agg (exC op noTxE 0 num den par noTxE (.slice a 2 c)).toArray] w fun e w'=>∃ cs,e=.returned (.agg cs.toArray)∧Gr w w'∧ExF w.heap.size w' cs (redX op num den par x y):=
 dsimple_core 8 rfl _ _ w rfl (exC_one _ _ _ _ _ _ _ _ _ _) (Lib.hid fun w' hg'=>dvalid_mx op num den par x y a c w' ho h hg hx hy (hA.gr hg')) (Lib.hid fun w' hg'=>simple_mx op num den par x y a c w' (by omega) (hA.gr hg'))
end Go.Proofs.YtnginfangeikpaaGreatDoor
