/-
  Contract of ValidSource of the reference.
  Conditions: the source's numbers are 64-bit numbers.
-/
import Derived.Test.YtgbiodnfpbhjiaaGreatDoorWalkTf
import Derived.Test.YtgbiodnfpbhjiaaGreatDoorWalkUd
import Derived.Test.YtgbiodnfpbhjiaaGreatDoorWalkEe
namespace Go.Proofs.YtgbiodnfpbhjiaaGreatDoor
open Go.RowKit Go.Lib
set_option linter.unusedSimpArgs false
set_option linter.unusedVariables false
theorem wiB_iff {n d m:Int} (hd:1≤d):wiB n d m=true↔-(m * d)≤n∧n≤m * d:=by
 have h0:=mg_nonneg n
 have h1:mg n / d<m↔mg n<m * d:=Int.ediv_lt_iff_lt_mul (by omega)
 have h2:=Int.mul_ediv_add_emod (mg n) d
 have h3:=Int.emod_nonneg (mg n) (show d≠0 by omega)
 have key:wiB n d m=true↔mg n≤m * d:=by
  unfold wiB
  rw [Bool.or_eq_true,Bool.and_eq_true,decide_eq_true_eq,decide_eq_true_eq,decide_eq_true_eq,h1]
  constructor
  ·rintro (h | ⟨h,h'⟩)
   ·omega
   ·rw [h,h',Int.mul_comm] at h2
    omega
  ·intro h
   by_cases h4:mg n=m * d
   ·refine .inr ?_
    rw [h4]
    exact⟨Int.mul_ediv_cancel _ (by omega),Int.mul_emod_left _ _⟩
   ·exact .inl (by omega)
 rw [key]
 unfold mg
 split <;> omega
def bsR (ad sd:Int):Int:=if 4294967296<ad∨4294967296<sd then 0 else if 4294967296 / sd<ad / gc ad sd then 0 else ad / gc ad sd * sd
theorem bsR_ok {ad sd:Int} (ha:1≤ad) (hd:1≤sd):(1≤bsR ad sd∧bsR ad sd≤65536)↔(ad≤65536∧sd≤65536∧ad / gc ad sd * sd≤65536):=by
 obtain⟨g,α,δ,e1,g1,e2,e3,a1,d1,e4⟩:=lcm_facts ha hd
 have hα:ad / gc ad sd=α:=by rw [e1];exact (Int.ediv_eq_of_eq_mul_left (by omega) e2)
 have h1:ad≤α * sd:=by
  have:ad≤ad * δ:=le_mul_one (by omega) d1
  have h:α * sd=ad * δ:=by rw [e3,e2,Int.mul_assoc,Int.mul_comm g δ]
  omega
 have h2:sd≤α * sd:=by
  have:=le_mul_one (a:=sd) (by omega) a1
  rw [Int.mul_comm] at this
  exact this
 rw [hα]
 unfold bsR
 rw [hα]
 constructor
 ·rintro ⟨h3,h4⟩
  split at h3
  ·omega
  ·split at h3
   ·omega
   ·rename_i h5 h6
    rw [if_neg h5,if_neg h6] at h4
    omega
 ·rintro ⟨h3,h4,h5⟩
  rw [if_neg (by omega),if_neg (by
   have:α≤4294967296 / sd:=(Int.le_ediv_iff_mul_le (by omega)).2 (by omega)
   omega)]
  omega
theorem vB_parts {n d:Int} (h:vB n d=true):1≤d:=by
 unfold vB at h
 exact (decide_eq_true_iff.1 h).1
theorem rvs_eq (s:Sr):vsB s=(decide (s=blkS) || (decide (s.k=1∨s.k=2) && (nmB s.nm && (vB s.an s.ad && (vB s.sn s.sd && (wiB s.an s.ad 1099511627776 && (wiB s.sn s.sd 1024 && (decide (1≤bsR s.ad s.sd) && decide (bsR s.ad s.sd≤65536))))))))):=by
 rw [Bool.eq_iff_iff]
 unfold vsB
 simp only [Bool.or_eq_true,Bool.and_eq_true,decide_eq_true_eq,bdB_iff]
 constructor
 ·rintro (h | ⟨⟨h1,h2⟩,⟨⟨h3,h4,h5⟩,⟨h7,h8,h9⟩⟩,h11⟩)
  ·exact .inl h
  ·have a:=vB_parts h3
   have d:=vB_parts h7
   exact .inr ⟨h1,h2,h3,h7,(wiB_iff a).2 h5,(wiB_iff d).2 h9,(bsR_ok a d).2 ⟨h4,h8,h11⟩⟩
 ·rintro (h | ⟨h1,h2,h3,h4,h5,h6,h7⟩)
  ·exact .inl h
  ·have a:=vB_parts h3
   have d:=vB_parts h4
   obtain⟨b1,b2,b3⟩:=(bsR_ok a d).1 h7
   exact .inr ⟨⟨h1,h2⟩,⟨⟨h3,b1,(wiB_iff a).1 h5⟩,⟨h4,b2,(wiB_iff d).1 h6⟩⟩,b3⟩
set_option maxHeartbeats 4000000 in
theorem rvrat_any (n d:Int) (w:World) (hn:I64 n) (hd:I64 d):Calls Tryz.prog 168 #[.agg #[.int .i64 n,.int .i64 d]] w fun e w'=>e=.returned (.bool (vB n d))∧Gr w w':=by
 have hn1:=hn.1
 have hn2:=hn.2
 have hd2:=hd.2
 by_cases c1:1≤d
 ·have q1:decide (1≤d)=true:=decide_eq_true c1
  by_cases c2:-9223372036854775808<n
  ·have q2:decide (-9223372036854775808<n)=true:=decide_eq_true c2
   have HG:Hid (∀ w',Calls Tryz.prog 74 #[.int .i64 n,.int .i64 d] w' fun e w''=>e=.returned (.int .i64 (gc n d))∧Gr w' w''):=Lib.hid fun w'=>rgcd23_any n d w' (by omega) (by omega)
   have hv:Hid (vB n d=(gc n d == 1)):=Lib.hid (by
    rw [Bool.eq_iff_iff]
    unfold vB
    rw [decide_eq_true_eq,beq_iff_eq]
    exact⟨fun h=>h.2.2,fun h=>⟨c1,c2,h⟩⟩)
   generalize gc n d=G at *
   generalize vB n d=V at *
   go_enter Tryz.func168,Tryz.ntmps168
   go_wp2_with (go_at_call 74;(with_reducible refine (HG.out _).mono ?_);rintro e w2 ⟨rfl,hg2⟩)
   go_ret
   exact⟨by rw [hv.out];rfl,(by repeat (first | with_reducible exact Gr.refl _ | with_reducible assumption | refine Gr.setCell ?_ (by first | omega | (simp;done) | (simp;omega)) _ | refine Gr.alloc ?_ _ | refine Gr.drew ?_ | refine Gr.drewN ?_ _ | refine Gr.trans ?_ (by with_reducible assumption)))⟩
  ·have q2:decide (-9223372036854775808<n)=false:=decide_eq_false c2
   rw [vB_num c2]
   go_enter Tryz.func168,Tryz.ntmps168
   go_wp2
   go_ret
   exact⟨rfl,(by repeat (first | with_reducible exact Gr.refl _ | with_reducible assumption | refine Gr.setCell ?_ (by first | omega | (simp;done) | (simp;omega)) _ | refine Gr.alloc ?_ _ | refine Gr.drew ?_ | refine Gr.drewN ?_ _ | refine Gr.trans ?_ (by with_reducible assumption)))⟩
 ·have q1:decide (1≤d)=false:=decide_eq_false c1
  rw [vB_den c1]
  go_enter Tryz.func168,Tryz.ntmps168
  go_wp2
  go_ret
  exact⟨rfl,(by repeat (first | with_reducible exact Gr.refl _ | with_reducible assumption | refine Gr.setCell ?_ (by first | omega | (simp;done) | (simp;omega)) _ | refine Gr.alloc ?_ _ | refine Gr.drew ?_ | refine Gr.drewN ?_ _ | refine Gr.trans ?_ (by with_reducible assumption)))⟩
set_option maxRecDepth 20000 in
set_option maxHeartbeats 4000000 in
theorem rbase2_any (s:Sr) (w:World) (a1:1≤s.ad) (a2:s.ad≤9223372036854775807) (d1:1≤s.sd) (d2:s.sd≤9223372036854775807):Calls Tryz.prog 97 #[s.val] w fun e w'=>e=.returned (.int .i64 (bsR s.ad s.sd))∧Gr w w':=by
 have hbx:Blk (w.alloc (.cells s.cells.toArray 79)) w.heap.size 79 s.cells:=Blk.new w s.cells 79
 have hgA:Gr w (w.alloc (.cells s.cells.toArray 79)):=(Gr.refl w).alloc _
 have l3:s.cells[3]?=some (.int .i64 s.ad):=rfl
 have l5:s.cells[5]?=some (.int .i64 s.sd):=rfl
 have HG:Hid (∀ w',Calls Tryz.prog 74 #[.int .i64 s.ad,.int .i64 s.sd] w' fun e w''=>e=.returned (.int .i64 (gc s.ad s.sd))∧Gr w' w''):=Lib.hid fun w'=>rgcd23_any s.ad s.sd w' (by omega) (by omega)
 have g1:=gc_pos_left s.ad s.sd (by omega)
 rw [show s.val=.agg s.cells.toArray from rfl]
 have hbd:Hid (bsR s.ad s.sd=if 4294967296<s.ad∨4294967296<s.sd then 0 else if 4294967296 / s.sd<s.ad / gc s.ad s.sd then 0 else s.ad / gc s.ad s.sd * s.sd):=Lib.hid rfl
 generalize bsR s.ad s.sd=R at *
 generalize gc s.ad s.sd=G at *
 have x1:s.ad.tdiv G=s.ad / G:=Int.tdiv_eq_ediv_of_nonneg (by omega)
 have x2:0≤s.ad / G:=Int.ediv_nonneg (by omega) (by omega)
 have x3:s.ad / G≤s.ad:=Int.ediv_le_self _ (by omega)
 have G0:¬ G=0:=by omega
 have D0:¬ s.sd=0:=by omega
 have z1:(4294967296:Int).tdiv s.sd=4294967296 / s.sd:=Int.tdiv_eq_ediv_of_nonneg (by omega)
 have z3:4294967296 / s.sd≤4294967296:=Int.ediv_le_self _ (by omega)
 have z5:0≤4294967296 / s.sd:=Int.ediv_nonneg (by omega) (by omega)
 have z4:0≤s.ad / G * s.sd:=Int.mul_nonneg x2 (by omega)
 have z6:s.ad / G≤4294967296 / s.sd→s.ad / G * s.sd≤4294967296:=fun h=>(Int.le_ediv_iff_mul_le (by omega)).1 h
 generalize s.ad / G=α at *
 generalize (4294967296:Int) / s.sd=L at *
 generalize s.cells=l at *
 generalize s.ad=ad at *
 generalize s.sd=sd at *
 have y0:=hbx.lt
 have y3:=(hbx.cel.2 3 _ l3).1
 have y5:=(hbx.cel.2 5 _ l5).1
 by_cases c1:4294967296<ad
 ·have q1:decide (4294967296<ad)=true:=decide_eq_true c1
  have hR:Hid (R=0):=Lib.hid (by rw [hbd.out,if_pos (.inl c1)])
  go_enter Tryz.func97,Tryz.ntmps97
  go_wp2
  go_ret
  exact⟨by rw [hR.out];rfl,(by repeat (first | with_reducible exact Gr.refl _ | with_reducible assumption | refine Gr.setCell ?_ (by first | omega | (simp;done) | (simp;omega)) _ | refine Gr.alloc ?_ _ | refine Gr.drew ?_ | refine Gr.drewN ?_ _ | refine Gr.trans ?_ (by with_reducible assumption)))⟩
 ·have q1:decide (4294967296<ad)=false:=decide_eq_false c1
  by_cases c2:4294967296<sd
  ·have q2:decide (4294967296<sd)=true:=decide_eq_true c2
   have hR:Hid (R=0):=Lib.hid (by rw [hbd.out,if_pos (.inr c2)])
   go_enter Tryz.func97,Tryz.ntmps97
   go_wp2
   go_ret
   exact⟨by rw [hR.out];rfl,(by repeat (first | with_reducible exact Gr.refl _ | with_reducible assumption | refine Gr.setCell ?_ (by first | omega | (simp;done) | (simp;omega)) _ | refine Gr.alloc ?_ _ | refine Gr.drew ?_ | refine Gr.drewN ?_ _ | refine Gr.trans ?_ (by with_reducible assumption)))⟩
  ·have q2:decide (4294967296<sd)=false:=decide_eq_false c2
   have hbd2:Hid (R=if L<α then 0 else α * sd):=Lib.hid (by rw [hbd.out,if_neg (by omega)])
   clear hbd
   go_enter Tryz.func97,Tryz.ntmps97
   go_upto_region 3 with fail
   generalize w.alloc (.cells l.toArray 79)=W at *
   refine wp_region_gr (by kernel_rfl) (by kernel_rfl) (fun hq1 hq2=>?_)
   repeat (first | go_big_quiet_skip | (go_big_quiet_want;go_big_quiet_op;first | go_big_quiet_on | (apply Exists.intro;refine⟨fun _=>?_,?_⟩;(· ((go_at_call 74;exact gr_call (HG.out _))));go_big_quiet_on)))
   refine wpQuiet_nil ?_
   clear hq1 hq2
   rintro w1 ⟨⟨_,hg1⟩,rfl⟩
   obtain⟨hc1,hf1⟩:=hg1.cells
   have hz1:=hg1.size
   (try simp at hz1);(try have hl1_0_0:w.heap.size<w1.heap.size:=by omega);(try have hm1_0_0:w.heap.size≤w1.heap.size:=by omega);(try have hl1_0_1:w.heap.size+1<w1.heap.size:=by omega);(try have hl1_0_2:w.heap.size+2<w1.heap.size:=by omega)
   have hb1:=hbx.gr hg1
   clear y0 y3 y5
   have y0:=hb1.lt
   have y3:=(hb1.cel.2 3 _ l3).1
   have y5:=(hb1.cel.2 5 _ l5).1
   by_cases c3:L<α
   ·have q3:decide (L<α)=true:=decide_eq_true c3
    have hR:Hid (R=0):=Lib.hid (by rw [hbd2.out,if_pos c3])
    go_wp2
    go_ret
    exact⟨by rw [hR.out];rfl,hgA.trans hg1⟩
   ·have q3:decide (L<α)=false:=decide_eq_false c3
    have hR:Hid (R=α * sd):=Lib.hid (by rw [hbd2.out,if_neg c3])
    have z7:=z6 (by omega)
    go_wp2
    go_ret
    exact⟨by rw [hR.out];rfl,hgA.trans hg1⟩
set_option maxRecDepth 20000 in
set_option maxHeartbeats 16000000 in
theorem rvsource_any (s:Sr) (w:World) (h:SrOk s):Calls Tryz.prog 129 #[s.val] w fun e w'=>e=.returned (.bool (vsB s))∧Gr w w':=by
 obtain⟨h1,h2,h3,h4,h5,h6⟩:=h
 rw [rvs_eq]
 have HB:Hid (∀ w',Calls Tryz.prog 57 #[s.val] w' fun e w''=>e=.returned (.bool (decide (s=blkS)))∧Gr w' w''):=Lib.hid fun w'=>rblack_any s w'
 have HN:Hid (∀ w',Calls Tryz.prog 84 #[.string s.nm] w' fun e w''=>e=.returned (.bool (nmB s.nm))∧Gr w' w''):=Lib.hid fun w'=>rvalidName_any s.nm w' h2
 have HR1:Hid (∀ w',Calls Tryz.prog 168 #[.agg #[.int .i64 s.an,.int .i64 s.ad]] w' fun e w''=>e=.returned (.bool (vB s.an s.ad))∧Gr w' w''):=Lib.hid fun w'=>rvrat_any s.an s.ad w' h3 h4
 have HR2:Hid (∀ w',Calls Tryz.prog 168 #[.agg #[.int .i64 s.sn,.int .i64 s.sd]] w' fun e w''=>e=.returned (.bool (vB s.sn s.sd))∧Gr w' w''):=Lib.hid fun w'=>rvrat_any s.sn s.sd w' h5 h6
 have HW1':vB s.an s.ad=true→Hid (∀ w',Calls Tryz.prog 98 #[.agg #[.int .i64 s.an,.int .i64 s.ad],.int .i64 1099511627776] w' fun e w''=>e=.returned (.bool (wiB s.an s.ad 1099511627776))∧Gr w' w''):=fun hv=>Lib.hid fun w'=>rwithin_any s.an s.ad 1099511627776 w' (by have:=(vB_inv hv).2.1;have:=h3.2;omega) (by have:=vB_parts hv;have:=h4.2;omega)
 have HW2':vB s.sn s.sd=true→Hid (∀ w',Calls Tryz.prog 98 #[.agg #[.int .i64 s.sn,.int .i64 s.sd],.int .i64 1024] w' fun e w''=>e=.returned (.bool (wiB s.sn s.sd 1024))∧Gr w' w''):=fun hv=>Lib.hid fun w'=>rwithin_any s.sn s.sd 1024 w' (by have:=(vB_inv hv).2.1;have:=h5.2;omega) (by have:=vB_parts hv;have:=h6.2;omega)
 have HBs':vB s.an s.ad=true→vB s.sn s.sd=true→Hid (∀ w',Calls Tryz.prog 97 #[s.val] w' fun e w''=>e=.returned (.int .i64 (bsR s.ad s.sd))∧Gr w' w''):=fun u v=>Lib.hid fun w'=>rbase2_any s w' (vB_parts u) h4.2 (vB_parts v) h6.2
 obtain⟨Rb,hRb⟩:∃ R,decide (s=blkS)=R:=⟨_,rfl⟩
 rw [hRb] at HB ⊢
 clear hRb h1 h2 h3 h4 h5 h6
 obtain⟨k,nm,an,ad,sn,sd,sm⟩:=s
 unfold Sr.val at *
 simp only at HB HN HR1 HR2 HW1' HW2' HBs' ⊢
 generalize nmB nm=Rn at *
 generalize vB an ad=R1 at *
 generalize vB sn sd=R2 at *
 generalize wiB an ad 1099511627776=W1 at *
 generalize wiB sn sd 1024=W2 at *
 generalize bsR ad sd=b at *
 have hb0:=Cel.new w #[.int .i64 k,.string nm,.int .i64 an,.int .i64 ad,.int .i64 sn,.int .i64 sd,.bool sm] 79
 cases Rb with
 | true=>
  go_enter Tryz.func129,Tryz.ntmps129
  go_wp2_with (go_at_call 57;(with_reducible refine (HB.out _).mono ?_);rintro e w1 ⟨rfl,hg1⟩;have hb1:=hb0.gr hg1;have y1:=hb1.lt;have y1_0:=(hb1.2 0 _ rfl).1;have y1_1:=(hb1.2 1 _ rfl).1;have y1_2:=(hb1.2 2 _ rfl).1;have y1_3:=(hb1.2 3 _ rfl).1;have y1_4:=(hb1.2 4 _ rfl).1;have y1_5:=(hb1.2 5 _ rfl).1;have y1_6:=(hb1.2 6 _ rfl).1)
  go_ret
  exact⟨rfl,(by repeat (first | with_reducible exact Gr.refl _ | with_reducible assumption | refine Gr.setCell ?_ (by first | omega | (simp;done) | (simp;omega)) _ | refine Gr.alloc ?_ _ | refine Gr.drew ?_ | refine Gr.drewN ?_ _ | refine Gr.trans ?_ (by with_reducible assumption)))⟩
 | false=>
  by_cases hk:k=1∨k=2
  ·rw [decide_eq_true hk]
   cases Rn with
   | false=>
    rcases hk with rfl | rfl
    all_goals
     go_enter Tryz.func129,Tryz.ntmps129
     go_wp2_with (first | (go_at_call 57;(with_reducible refine (HB.out _).mono ?_);rintro e w1 ⟨rfl,hg1⟩;have hb1:=hb0.gr hg1;have y1:=hb1.lt;have y1_0:=(hb1.2 0 _ rfl).1;have y1_1:=(hb1.2 1 _ rfl).1;have y1_2:=(hb1.2 2 _ rfl).1;have y1_3:=(hb1.2 3 _ rfl).1;have y1_4:=(hb1.2 4 _ rfl).1;have y1_5:=(hb1.2 5 _ rfl).1;have y1_6:=(hb1.2 6 _ rfl).1) | (go_at_call 84;(with_reducible refine (HN.out _).mono ?_);rintro e w2 ⟨rfl,hg2⟩;have hb2:=hb1.gr hg2;have y2:=hb2.lt;have y2_0:=(hb2.2 0 _ rfl).1;have y2_1:=(hb2.2 1 _ rfl).1;have y2_2:=(hb2.2 2 _ rfl).1;have y2_3:=(hb2.2 3 _ rfl).1;have y2_4:=(hb2.2 4 _ rfl).1;have y2_5:=(hb2.2 5 _ rfl).1;have y2_6:=(hb2.2 6 _ rfl).1))
     go_ret
     exact⟨rfl,(by repeat (first | with_reducible exact Gr.refl _ | with_reducible assumption | refine Gr.setCell ?_ (by first | omega | (simp;done) | (simp;omega)) _ | refine Gr.alloc ?_ _ | refine Gr.drew ?_ | refine Gr.drewN ?_ _ | refine Gr.trans ?_ (by with_reducible assumption)))⟩
   | true=>
    cases R1 with
    | false=>
     rcases hk with rfl | rfl
     all_goals
      go_enter Tryz.func129,Tryz.ntmps129
      go_wp2_with (first | (go_at_call 57;(with_reducible refine (HB.out _).mono ?_);rintro e w1 ⟨rfl,hg1⟩;have hb1:=hb0.gr hg1;have y1:=hb1.lt;have y1_0:=(hb1.2 0 _ rfl).1;have y1_1:=(hb1.2 1 _ rfl).1;have y1_2:=(hb1.2 2 _ rfl).1;have y1_3:=(hb1.2 3 _ rfl).1;have y1_4:=(hb1.2 4 _ rfl).1;have y1_5:=(hb1.2 5 _ rfl).1;have y1_6:=(hb1.2 6 _ rfl).1) | (go_at_call 84;(with_reducible refine (HN.out _).mono ?_);rintro e w2 ⟨rfl,hg2⟩;have hb2:=hb1.gr hg2;have y2:=hb2.lt;have y2_0:=(hb2.2 0 _ rfl).1;have y2_1:=(hb2.2 1 _ rfl).1;have y2_2:=(hb2.2 2 _ rfl).1;have y2_3:=(hb2.2 3 _ rfl).1;have y2_4:=(hb2.2 4 _ rfl).1;have y2_5:=(hb2.2 5 _ rfl).1;have y2_6:=(hb2.2 6 _ rfl).1) | (go_at_call 168;(with_reducible refine (HR1.out _).mono ?_);rintro e w3 ⟨rfl,hg3⟩;have hb3:=hb2.gr hg3;have y3:=hb3.lt;have y3_0:=(hb3.2 0 _ rfl).1;have y3_1:=(hb3.2 1 _ rfl).1;have y3_2:=(hb3.2 2 _ rfl).1;have y3_3:=(hb3.2 3 _ rfl).1;have y3_4:=(hb3.2 4 _ rfl).1;have y3_5:=(hb3.2 5 _ rfl).1;have y3_6:=(hb3.2 6 _ rfl).1))
      go_ret
      exact⟨rfl,(by repeat (first | with_reducible exact Gr.refl _ | with_reducible assumption | refine Gr.setCell ?_ (by first | omega | (simp;done) | (simp;omega)) _ | refine Gr.alloc ?_ _ | refine Gr.drew ?_ | refine Gr.drewN ?_ _ | refine Gr.trans ?_ (by with_reducible assumption)))⟩
    | true=>
     cases R2 with
     | false=>
      rcases hk with rfl | rfl
      all_goals
       go_enter Tryz.func129,Tryz.ntmps129
       go_wp2_with (first | (go_at_call 57;(with_reducible refine (HB.out _).mono ?_);rintro e w1 ⟨rfl,hg1⟩;have hb1:=hb0.gr hg1;have y1:=hb1.lt;have y1_0:=(hb1.2 0 _ rfl).1;have y1_1:=(hb1.2 1 _ rfl).1;have y1_2:=(hb1.2 2 _ rfl).1;have y1_3:=(hb1.2 3 _ rfl).1;have y1_4:=(hb1.2 4 _ rfl).1;have y1_5:=(hb1.2 5 _ rfl).1;have y1_6:=(hb1.2 6 _ rfl).1) | (go_at_call 84;(with_reducible refine (HN.out _).mono ?_);rintro e w2 ⟨rfl,hg2⟩;have hb2:=hb1.gr hg2;have y2:=hb2.lt;have y2_0:=(hb2.2 0 _ rfl).1;have y2_1:=(hb2.2 1 _ rfl).1;have y2_2:=(hb2.2 2 _ rfl).1;have y2_3:=(hb2.2 3 _ rfl).1;have y2_4:=(hb2.2 4 _ rfl).1;have y2_5:=(hb2.2 5 _ rfl).1;have y2_6:=(hb2.2 6 _ rfl).1) | (go_at_call 168;(with_reducible refine (HR1.out _).mono ?_);rintro e w3 ⟨rfl,hg3⟩;have hb3:=hb2.gr hg3;have y3:=hb3.lt;have y3_0:=(hb3.2 0 _ rfl).1;have y3_1:=(hb3.2 1 _ rfl).1;have y3_2:=(hb3.2 2 _ rfl).1;have y3_3:=(hb3.2 3 _ rfl).1;have y3_4:=(hb3.2 4 _ rfl).1;have y3_5:=(hb3.2 5 _ rfl).1;have y3_6:=(hb3.2 6 _ rfl).1) | (go_at_call 168;(with_reducible refine (HR2.out _).mono ?_);rintro e w4 ⟨rfl,hg4⟩;have hb4:=hb3.gr hg4;have y4:=hb4.lt;have y4_0:=(hb4.2 0 _ rfl).1;have y4_1:=(hb4.2 1 _ rfl).1;have y4_2:=(hb4.2 2 _ rfl).1;have y4_3:=(hb4.2 3 _ rfl).1;have y4_4:=(hb4.2 4 _ rfl).1;have y4_5:=(hb4.2 5 _ rfl).1;have y4_6:=(hb4.2 6 _ rfl).1))
       go_ret
       exact⟨rfl,(by repeat (first | with_reducible exact Gr.refl _ | with_reducible assumption | refine Gr.setCell ?_ (by first | omega | (simp;done) | (simp;omega)) _ | refine Gr.alloc ?_ _ | refine Gr.drew ?_ | refine Gr.drewN ?_ _ | refine Gr.trans ?_ (by with_reducible assumption)))⟩
     | true=>
      have HW1:=HW1' rfl
      have HW2:=HW2' rfl
      have HBs:=HBs' rfl rfl
      clear HW1' HW2' HBs'
      cases W1 with
      | false=>
       rcases hk with rfl | rfl
       all_goals
        go_enter Tryz.func129,Tryz.ntmps129
        go_wp2_with (first | (go_at_call 57;(with_reducible refine (HB.out _).mono ?_);rintro e w1 ⟨rfl,hg1⟩;have hb1:=hb0.gr hg1;have y1:=hb1.lt;have y1_0:=(hb1.2 0 _ rfl).1;have y1_1:=(hb1.2 1 _ rfl).1;have y1_2:=(hb1.2 2 _ rfl).1;have y1_3:=(hb1.2 3 _ rfl).1;have y1_4:=(hb1.2 4 _ rfl).1;have y1_5:=(hb1.2 5 _ rfl).1;have y1_6:=(hb1.2 6 _ rfl).1) | (go_at_call 84;(with_reducible refine (HN.out _).mono ?_);rintro e w2 ⟨rfl,hg2⟩;have hb2:=hb1.gr hg2;have y2:=hb2.lt;have y2_0:=(hb2.2 0 _ rfl).1;have y2_1:=(hb2.2 1 _ rfl).1;have y2_2:=(hb2.2 2 _ rfl).1;have y2_3:=(hb2.2 3 _ rfl).1;have y2_4:=(hb2.2 4 _ rfl).1;have y2_5:=(hb2.2 5 _ rfl).1;have y2_6:=(hb2.2 6 _ rfl).1) | (go_at_call 168;(with_reducible refine (HR1.out _).mono ?_);rintro e w3 ⟨rfl,hg3⟩;have hb3:=hb2.gr hg3;have y3:=hb3.lt;have y3_0:=(hb3.2 0 _ rfl).1;have y3_1:=(hb3.2 1 _ rfl).1;have y3_2:=(hb3.2 2 _ rfl).1;have y3_3:=(hb3.2 3 _ rfl).1;have y3_4:=(hb3.2 4 _ rfl).1;have y3_5:=(hb3.2 5 _ rfl).1;have y3_6:=(hb3.2 6 _ rfl).1) | (go_at_call 168;(with_reducible refine (HR2.out _).mono ?_);rintro e w4 ⟨rfl,hg4⟩;have hb4:=hb3.gr hg4;have y4:=hb4.lt;have y4_0:=(hb4.2 0 _ rfl).1;have y4_1:=(hb4.2 1 _ rfl).1;have y4_2:=(hb4.2 2 _ rfl).1;have y4_3:=(hb4.2 3 _ rfl).1;have y4_4:=(hb4.2 4 _ rfl).1;have y4_5:=(hb4.2 5 _ rfl).1;have y4_6:=(hb4.2 6 _ rfl).1) | (go_at_call 98;(with_reducible refine (HW1.out _).mono ?_);rintro e w5 ⟨rfl,hg5⟩;have hb5:=hb4.gr hg5;have y5:=hb5.lt;have y5_0:=(hb5.2 0 _ rfl).1;have y5_1:=(hb5.2 1 _ rfl).1;have y5_2:=(hb5.2 2 _ rfl).1;have y5_3:=(hb5.2 3 _ rfl).1;have y5_4:=(hb5.2 4 _ rfl).1;have y5_5:=(hb5.2 5 _ rfl).1;have y5_6:=(hb5.2 6 _ rfl).1))
        go_ret
        exact⟨rfl,(by repeat (first | with_reducible exact Gr.refl _ | with_reducible assumption | refine Gr.setCell ?_ (by first | omega | (simp;done) | (simp;omega)) _ | refine Gr.alloc ?_ _ | refine Gr.drew ?_ | refine Gr.drewN ?_ _ | refine Gr.trans ?_ (by with_reducible assumption)))⟩
      | true=>
       cases W2 with
       | false=>
        rcases hk with rfl | rfl
        all_goals
         go_enter Tryz.func129,Tryz.ntmps129
         go_wp2_with (first | (go_at_call 57;(with_reducible refine (HB.out _).mono ?_);rintro e w1 ⟨rfl,hg1⟩;have hb1:=hb0.gr hg1;have y1:=hb1.lt;have y1_0:=(hb1.2 0 _ rfl).1;have y1_1:=(hb1.2 1 _ rfl).1;have y1_2:=(hb1.2 2 _ rfl).1;have y1_3:=(hb1.2 3 _ rfl).1;have y1_4:=(hb1.2 4 _ rfl).1;have y1_5:=(hb1.2 5 _ rfl).1;have y1_6:=(hb1.2 6 _ rfl).1) | (go_at_call 84;(with_reducible refine (HN.out _).mono ?_);rintro e w2 ⟨rfl,hg2⟩;have hb2:=hb1.gr hg2;have y2:=hb2.lt;have y2_0:=(hb2.2 0 _ rfl).1;have y2_1:=(hb2.2 1 _ rfl).1;have y2_2:=(hb2.2 2 _ rfl).1;have y2_3:=(hb2.2 3 _ rfl).1;have y2_4:=(hb2.2 4 _ rfl).1;have y2_5:=(hb2.2 5 _ rfl).1;have y2_6:=(hb2.2 6 _ rfl).1) | (go_at_call 168;(with_reducible refine (HR1.out _).mono ?_);rintro e w3 ⟨rfl,hg3⟩;have hb3:=hb2.gr hg3;have y3:=hb3.lt;have y3_0:=(hb3.2 0 _ rfl).1;have y3_1:=(hb3.2 1 _ rfl).1;have y3_2:=(hb3.2 2 _ rfl).1;have y3_3:=(hb3.2 3 _ rfl).1;have y3_4:=(hb3.2 4 _ rfl).1;have y3_5:=(hb3.2 5 _ rfl).1;have y3_6:=(hb3.2 6 _ rfl).1) | (go_at_call 168;(with_reducible refine (HR2.out _).mono ?_);rintro e w4 ⟨rfl,hg4⟩;have hb4:=hb3.gr hg4;have y4:=hb4.lt;have y4_0:=(hb4.2 0 _ rfl).1;have y4_1:=(hb4.2 1 _ rfl).1;have y4_2:=(hb4.2 2 _ rfl).1;have y4_3:=(hb4.2 3 _ rfl).1;have y4_4:=(hb4.2 4 _ rfl).1;have y4_5:=(hb4.2 5 _ rfl).1;have y4_6:=(hb4.2 6 _ rfl).1) | (go_at_call 98;(with_reducible refine (HW1.out _).mono ?_);rintro e w5 ⟨rfl,hg5⟩;have hb5:=hb4.gr hg5;have y5:=hb5.lt;have y5_0:=(hb5.2 0 _ rfl).1;have y5_1:=(hb5.2 1 _ rfl).1;have y5_2:=(hb5.2 2 _ rfl).1;have y5_3:=(hb5.2 3 _ rfl).1;have y5_4:=(hb5.2 4 _ rfl).1;have y5_5:=(hb5.2 5 _ rfl).1;have y5_6:=(hb5.2 6 _ rfl).1) | (go_at_call 98;(with_reducible refine (HW2.out _).mono ?_);rintro e w6 ⟨rfl,hg6⟩;have hb6:=hb5.gr hg6;have y6:=hb6.lt;have y6_0:=(hb6.2 0 _ rfl).1;have y6_1:=(hb6.2 1 _ rfl).1;have y6_2:=(hb6.2 2 _ rfl).1;have y6_3:=(hb6.2 3 _ rfl).1;have y6_4:=(hb6.2 4 _ rfl).1;have y6_5:=(hb6.2 5 _ rfl).1;have y6_6:=(hb6.2 6 _ rfl).1))
         go_ret
         exact⟨rfl,(by repeat (first | with_reducible exact Gr.refl _ | with_reducible assumption | refine Gr.setCell ?_ (by first | omega | (simp;done) | (simp;omega)) _ | refine Gr.alloc ?_ _ | refine Gr.drew ?_ | refine Gr.drewN ?_ _ | refine Gr.trans ?_ (by with_reducible assumption)))⟩
       | true=>
        by_cases b1:1≤b
        ·have q1:decide (1≤b)=true:=decide_eq_true b1
         rw [q1]
         rcases hk with rfl | rfl
         all_goals
          go_enter Tryz.func129,Tryz.ntmps129
          go_wp2_with (first | (go_at_call 57;(with_reducible refine (HB.out _).mono ?_);rintro e w1 ⟨rfl,hg1⟩;have hb1:=hb0.gr hg1;have y1:=hb1.lt;have y1_0:=(hb1.2 0 _ rfl).1;have y1_1:=(hb1.2 1 _ rfl).1;have y1_2:=(hb1.2 2 _ rfl).1;have y1_3:=(hb1.2 3 _ rfl).1;have y1_4:=(hb1.2 4 _ rfl).1;have y1_5:=(hb1.2 5 _ rfl).1;have y1_6:=(hb1.2 6 _ rfl).1) | (go_at_call 84;(with_reducible refine (HN.out _).mono ?_);rintro e w2 ⟨rfl,hg2⟩;have hb2:=hb1.gr hg2;have y2:=hb2.lt;have y2_0:=(hb2.2 0 _ rfl).1;have y2_1:=(hb2.2 1 _ rfl).1;have y2_2:=(hb2.2 2 _ rfl).1;have y2_3:=(hb2.2 3 _ rfl).1;have y2_4:=(hb2.2 4 _ rfl).1;have y2_5:=(hb2.2 5 _ rfl).1;have y2_6:=(hb2.2 6 _ rfl).1) | (go_at_call 168;(with_reducible refine (HR1.out _).mono ?_);rintro e w3 ⟨rfl,hg3⟩;have hb3:=hb2.gr hg3;have y3:=hb3.lt;have y3_0:=(hb3.2 0 _ rfl).1;have y3_1:=(hb3.2 1 _ rfl).1;have y3_2:=(hb3.2 2 _ rfl).1;have y3_3:=(hb3.2 3 _ rfl).1;have y3_4:=(hb3.2 4 _ rfl).1;have y3_5:=(hb3.2 5 _ rfl).1;have y3_6:=(hb3.2 6 _ rfl).1) | (go_at_call 168;(with_reducible refine (HR2.out _).mono ?_);rintro e w4 ⟨rfl,hg4⟩;have hb4:=hb3.gr hg4;have y4:=hb4.lt;have y4_0:=(hb4.2 0 _ rfl).1;have y4_1:=(hb4.2 1 _ rfl).1;have y4_2:=(hb4.2 2 _ rfl).1;have y4_3:=(hb4.2 3 _ rfl).1;have y4_4:=(hb4.2 4 _ rfl).1;have y4_5:=(hb4.2 5 _ rfl).1;have y4_6:=(hb4.2 6 _ rfl).1) | (go_at_call 98;(with_reducible refine (HW1.out _).mono ?_);rintro e w5 ⟨rfl,hg5⟩;have hb5:=hb4.gr hg5;have y5:=hb5.lt;have y5_0:=(hb5.2 0 _ rfl).1;have y5_1:=(hb5.2 1 _ rfl).1;have y5_2:=(hb5.2 2 _ rfl).1;have y5_3:=(hb5.2 3 _ rfl).1;have y5_4:=(hb5.2 4 _ rfl).1;have y5_5:=(hb5.2 5 _ rfl).1;have y5_6:=(hb5.2 6 _ rfl).1) | (go_at_call 98;(with_reducible refine (HW2.out _).mono ?_);rintro e w6 ⟨rfl,hg6⟩;have hb6:=hb5.gr hg6;have y6:=hb6.lt;have y6_0:=(hb6.2 0 _ rfl).1;have y6_1:=(hb6.2 1 _ rfl).1;have y6_2:=(hb6.2 2 _ rfl).1;have y6_3:=(hb6.2 3 _ rfl).1;have y6_4:=(hb6.2 4 _ rfl).1;have y6_5:=(hb6.2 5 _ rfl).1;have y6_6:=(hb6.2 6 _ rfl).1) | (go_at_call 97;(with_reducible refine (HBs.out _).mono ?_);rintro e w7 ⟨rfl,hg7⟩;have hb7:=hb6.gr hg7;have y7:=hb7.lt;have y7_0:=(hb7.2 0 _ rfl).1;have y7_1:=(hb7.2 1 _ rfl).1;have y7_2:=(hb7.2 2 _ rfl).1;have y7_3:=(hb7.2 3 _ rfl).1;have y7_4:=(hb7.2 4 _ rfl).1;have y7_5:=(hb7.2 5 _ rfl).1;have y7_6:=(hb7.2 6 _ rfl).1))
          go_ret
          exact⟨rfl,(by repeat (first | with_reducible exact Gr.refl _ | with_reducible assumption | refine Gr.setCell ?_ (by first | omega | (simp;done) | (simp;omega)) _ | refine Gr.alloc ?_ _ | refine Gr.drew ?_ | refine Gr.drewN ?_ _ | refine Gr.trans ?_ (by with_reducible assumption)))⟩
        ·have q1:decide (1≤b)=false:=decide_eq_false b1
         rw [q1]
         rcases hk with rfl | rfl
         all_goals
          go_enter Tryz.func129,Tryz.ntmps129
          go_wp2_with (first | (go_at_call 57;(with_reducible refine (HB.out _).mono ?_);rintro e w1 ⟨rfl,hg1⟩;have hb1:=hb0.gr hg1;have y1:=hb1.lt;have y1_0:=(hb1.2 0 _ rfl).1;have y1_1:=(hb1.2 1 _ rfl).1;have y1_2:=(hb1.2 2 _ rfl).1;have y1_3:=(hb1.2 3 _ rfl).1;have y1_4:=(hb1.2 4 _ rfl).1;have y1_5:=(hb1.2 5 _ rfl).1;have y1_6:=(hb1.2 6 _ rfl).1) | (go_at_call 84;(with_reducible refine (HN.out _).mono ?_);rintro e w2 ⟨rfl,hg2⟩;have hb2:=hb1.gr hg2;have y2:=hb2.lt;have y2_0:=(hb2.2 0 _ rfl).1;have y2_1:=(hb2.2 1 _ rfl).1;have y2_2:=(hb2.2 2 _ rfl).1;have y2_3:=(hb2.2 3 _ rfl).1;have y2_4:=(hb2.2 4 _ rfl).1;have y2_5:=(hb2.2 5 _ rfl).1;have y2_6:=(hb2.2 6 _ rfl).1) | (go_at_call 168;(with_reducible refine (HR1.out _).mono ?_);rintro e w3 ⟨rfl,hg3⟩;have hb3:=hb2.gr hg3;have y3:=hb3.lt;have y3_0:=(hb3.2 0 _ rfl).1;have y3_1:=(hb3.2 1 _ rfl).1;have y3_2:=(hb3.2 2 _ rfl).1;have y3_3:=(hb3.2 3 _ rfl).1;have y3_4:=(hb3.2 4 _ rfl).1;have y3_5:=(hb3.2 5 _ rfl).1;have y3_6:=(hb3.2 6 _ rfl).1) | (go_at_call 168;(with_reducible refine (HR2.out _).mono ?_);rintro e w4 ⟨rfl,hg4⟩;have hb4:=hb3.gr hg4;have y4:=hb4.lt;have y4_0:=(hb4.2 0 _ rfl).1;have y4_1:=(hb4.2 1 _ rfl).1;have y4_2:=(hb4.2 2 _ rfl).1;have y4_3:=(hb4.2 3 _ rfl).1;have y4_4:=(hb4.2 4 _ rfl).1;have y4_5:=(hb4.2 5 _ rfl).1;have y4_6:=(hb4.2 6 _ rfl).1) | (go_at_call 98;(with_reducible refine (HW1.out _).mono ?_);rintro e w5 ⟨rfl,hg5⟩;have hb5:=hb4.gr hg5;have y5:=hb5.lt;have y5_0:=(hb5.2 0 _ rfl).1;have y5_1:=(hb5.2 1 _ rfl).1;have y5_2:=(hb5.2 2 _ rfl).1;have y5_3:=(hb5.2 3 _ rfl).1;have y5_4:=(hb5.2 4 _ rfl).1;have y5_5:=(hb5.2 5 _ rfl).1;have y5_6:=(hb5.2 6 _ rfl).1) | (go_at_call 98;(with_reducible refine (HW2.out _).mono ?_);rintro e w6 ⟨rfl,hg6⟩;have hb6:=hb5.gr hg6;have y6:=hb6.lt;have y6_0:=(hb6.2 0 _ rfl).1;have y6_1:=(hb6.2 1 _ rfl).1;have y6_2:=(hb6.2 2 _ rfl).1;have y6_3:=(hb6.2 3 _ rfl).1;have y6_4:=(hb6.2 4 _ rfl).1;have y6_5:=(hb6.2 5 _ rfl).1;have y6_6:=(hb6.2 6 _ rfl).1) | (go_at_call 97;(with_reducible refine (HBs.out _).mono ?_);rintro e w7 ⟨rfl,hg7⟩;have hb7:=hb6.gr hg7;have y7:=hb7.lt;have y7_0:=(hb7.2 0 _ rfl).1;have y7_1:=(hb7.2 1 _ rfl).1;have y7_2:=(hb7.2 2 _ rfl).1;have y7_3:=(hb7.2 3 _ rfl).1;have y7_4:=(hb7.2 4 _ rfl).1;have y7_5:=(hb7.2 5 _ rfl).1;have y7_6:=(hb7.2 6 _ rfl).1))
          go_ret
          exact⟨rfl,(by repeat (first | with_reducible exact Gr.refl _ | with_reducible assumption | refine Gr.setCell ?_ (by first | omega | (simp;done) | (simp;omega)) _ | refine Gr.alloc ?_ _ | refine Gr.drew ?_ | refine Gr.drewN ?_ _ | refine Gr.trans ?_ (by with_reducible assumption)))⟩
  ·rw [decide_eq_false hk]
   have q1:(k != 1)=true:=by simp;omega
   have q2:(k != 2)=true:=by simp;omega
   go_enter Tryz.func129,Tryz.ntmps129
   go_wp2_with (go_at_call 57;(with_reducible refine (HB.out _).mono ?_);rintro e w1 ⟨rfl,hg1⟩;have hb1:=hb0.gr hg1;have y1:=hb1.lt;have y1_0:=(hb1.2 0 _ rfl).1;have y1_1:=(hb1.2 1 _ rfl).1;have y1_2:=(hb1.2 2 _ rfl).1;have y1_3:=(hb1.2 3 _ rfl).1;have y1_4:=(hb1.2 4 _ rfl).1;have y1_5:=(hb1.2 5 _ rfl).1;have y1_6:=(hb1.2 6 _ rfl).1)
   go_ret
   exact⟨rfl,(by repeat (first | with_reducible exact Gr.refl _ | with_reducible assumption | refine Gr.setCell ?_ (by first | omega | (simp;done) | (simp;omega)) _ | refine Gr.alloc ?_ _ | refine Gr.drew ?_ | refine Gr.drewN ?_ _ | refine Gr.trans ?_ (by with_reducible assumption)))⟩
end Go.Proofs.YtgbiodnfpbhjiaaGreatDoor
