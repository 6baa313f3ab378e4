/-
  Contracts of fraction and Add of package rational.
  Conditions: the arguments are integers of their kinds.
-/
import Derived.Test.YtnginfangeikpaaGreatDoorWalkF
import Derived.Test.YtnginfangeikpaaGreatDoorKit
import Derived.Test.YtnginfangeikpaaGreatDoorMathH
namespace Go.Proofs.YtnginfangeikpaaGreatDoor
open Go.RowKit
set_option linter.unusedSimpArgs false
set_option linter.unusedVariables false
theorem fraction_any (q D:Int) (w:World) (hq:I64 q) (hD:0≤D) (hf:Fit D) :
  Calls Tryz.prog 135 #[.int .i64 q,.agg #[.bool (wN D),.int .u64 (wH D),.int .u64 (wL D)]] w fun e w'=>
   e=.returned (.tuple #[.agg #[.int .i64 (if -9223372036854775807≤q∧D≤9223372036854775807 then q else 0),.int .i64 (if -9223372036854775807≤q∧D≤9223372036854775807 then D else 0)],.int .i64 (if -9223372036854775807≤q∧D≤9223372036854775807 then 0 else 2)])∧Gr w w':=by
 obtain⟨q1,q2⟩:=hq
 have e1:D / 1=D:=Int.ediv_one D
 by_cases h:D≤9223372036854775807
 ·have HD:=fun w=>divide_any D 1 w hf (by omega) (by omega) true (decide_eq_true (by rw [e1];omega))
  rw [e1] at HD
  simp only [if_true] at HD
  generalize D % 1=r at *
  have HD:=Lib.hid HD
  by_cases h2:q=-9223372036854775808
  ·subst h2
   simp only [show ¬ (-9223372036854775807≤(-9223372036854775808:Int)) by decide,false_and,if_false]
   clear e1 hf
   go_enter Tryz.func135,Tryz.ntmps135
   go_wp2_with (go_at_call 134;refine (HD.out _).mono ?_;rintro e w1 ⟨rfl,hg1⟩;obtain⟨hc1,hf1⟩:=hg1.cells;have hz1:=hg1.size;(try simp at hz1);(try have hl1_0_0:w.heap.size<w1.heap.size:=by omega);(try have hm1_0_0:w.heap.size≤w1.heap.size:=by omega);(try have hl1_0_1:w.heap.size+1<w1.heap.size:=by omega);(try have hl1_0_2:w.heap.size+2<w1.heap.size:=by omega))
   simp [bodyPost,results,Tryz.results135,go_sem,hc1,hf1]
   exact (by repeat (first | refine Gr.setCell ?_ (by first | omega | (simp;done) | (simp;omega)) _ | refine Gr.alloc ?_ _ | refine Gr.drew ?_ | refine Gr.drewN ?_ _ | with_reducible assumption | with_reducible exact Gr.refl _ | refine Gr.trans ?_ (by with_reducible assumption)))
  ·have h3:-9223372036854775807≤q:=by omega
   have h4:(q == -9223372036854775808)=false:=by simpa using h2
   simp only [h3,h,and_self,if_true]
   clear e1 hf h2
   go_enter Tryz.func135,Tryz.ntmps135
   go_wp2_with (go_at_call 134;refine (HD.out _).mono ?_;rintro e w1 ⟨rfl,hg1⟩;obtain⟨hc1,hf1⟩:=hg1.cells;have hz1:=hg1.size;(try simp at hz1);(try have hl1_0_0:w.heap.size<w1.heap.size:=by omega);(try have hm1_0_0:w.heap.size≤w1.heap.size:=by omega);(try have hl1_0_1:w.heap.size+1<w1.heap.size:=by omega);(try have hl1_0_2:w.heap.size+2<w1.heap.size:=by omega))
   simp [bodyPost,results,Tryz.results135,go_sem,hc1,hf1]
   exact (by repeat (first | refine Gr.setCell ?_ (by first | omega | (simp;done) | (simp;omega)) _ | refine Gr.alloc ?_ _ | refine Gr.drew ?_ | refine Gr.drewN ?_ _ | with_reducible assumption | with_reducible exact Gr.refl _ | refine Gr.trans ?_ (by with_reducible assumption)))
 ·have HD:=fun w=>divide_any D 1 w hf (by omega) (by omega) false (decide_eq_false (by rw [e1];omega))
  simp only [if_false,Bool.false_eq_true] at HD
  have HD:=Lib.hid HD
  simp only [h,and_false,if_false]
  clear e1 hf
  go_enter Tryz.func135,Tryz.ntmps135
  go_wp2_with (go_at_call 134;refine (HD.out _).mono ?_;rintro e w1 ⟨rfl,hg1⟩;obtain⟨hc1,hf1⟩:=hg1.cells;have hz1:=hg1.size;(try simp at hz1);(try have hl1_0_0:w.heap.size<w1.heap.size:=by omega);(try have hm1_0_0:w.heap.size≤w1.heap.size:=by omega);(try have hl1_0_1:w.heap.size+1<w1.heap.size:=by omega);(try have hl1_0_2:w.heap.size+2<w1.heap.size:=by omega))
  simp [bodyPost,results,Tryz.results135,go_sem,hc1,hf1]
  exact (by repeat (first | refine Gr.setCell ?_ (by first | omega | (simp;done) | (simp;omega)) _ | refine Gr.alloc ?_ _ | refine Gr.drew ?_ | refine Gr.drewN ?_ _ | with_reducible assumption | with_reducible exact Gr.refl _ | refine Gr.trans ?_ (by with_reducible assumption)))
set_option maxRecDepth 100000 in
set_option maxHeartbeats 8000000 in
theorem add_core_yes (an ad bn bd g α β γ S M h Q r D FN FD FE:Int) (w:World) (a1:1≤ad) (a2:ad≤9223372036854775807) (b1:1≤bd) (b2:bd≤9223372036854775807)
  (g1:1≤g) (g2:g≤9223372036854775807) (h1:1≤h) (h2:h≤9223372036854775807) (hα:ad / g=α) (hβ:bd / g=β) (hγ:bd / h=γ)
  (HA:∀ w,Calls Tryz.prog 119 #[.agg #[.int .i64 an,.int .i64 ad]] w fun e w'=>e=.returned (.bool true)∧Gr w w')
  (HB:∀ w,Calls Tryz.prog 119 #[.agg #[.int .i64 bn,.int .i64 bd]] w fun e w'=>e=.returned (.bool true)∧Gr w w')
  (HG:∀ w,Calls Tryz.prog 105 #[.int .u64 ad,.int .u64 bd] w fun e w'=>e=.returned (.int .u64 g)∧Gr w w')
  (HP1:∀ w,Calls Tryz.prog 133 #[.int .i64 an,.int .i64 β] w fun e w'=>e=.returned (.agg #[.bool (wN (an * β)),.int .u64 (wH (an * β)),.int .u64 (wL (an * β))])∧Gr w w')
  (HP2:∀ w,Calls Tryz.prog 133 #[.int .i64 bn,.int .i64 α] w fun e w'=>e=.returned (.agg #[.bool (wN (bn * α)),.int .u64 (wH (bn * α)),.int .u64 (wL (bn * α))])∧Gr w w')
  (HS:∀ w,Calls Tryz.prog 136 #[.agg #[.bool (wN (an * β)),.int .u64 (wH (an * β)),.int .u64 (wL (an * β))],.agg #[.bool (wN (bn * α)),.int .u64 (wH (bn * α)),.int .u64 (wL (bn * α))]] w fun e w'=>e=.returned (.agg #[.bool (wN S),.int .u64 (wH S),.int .u64 (wL S)])∧Gr w w')
  (HM:∀ w,Calls Tryz.prog 137 #[.agg #[.bool (wN S),.int .u64 (wH S),.int .u64 (wL S)],.int .u64 g] w fun e w'=>e=.returned (.int .u64 M)∧Gr w w')
  (HG2:∀ w,Calls Tryz.prog 105 #[.int .u64 M,.int .u64 g] w fun e w'=>e=.returned (.int .u64 h)∧Gr w w')
  (HD:∀ w,Calls Tryz.prog 134 #[.agg #[.bool (wN S),.int .u64 (wH S),.int .u64 (wL S)],.int .u64 h] w fun e w'=>e=.returned (.tuple #[.int .i64 Q,.int .u64 r,.bool true])∧Gr w w')
  (HPD:∀ w,Calls Tryz.prog 133 #[.int .i64 α,.int .i64 γ] w fun e w'=>e=.returned (.agg #[.bool (wN D),.int .u64 (wH D),.int .u64 (wL D)])∧Gr w w')
  (HF:∀ w,Calls Tryz.prog 135 #[.int .i64 Q,.agg #[.bool (wN D),.int .u64 (wH D),.int .u64 (wL D)]] w fun e w'=>e=.returned (.tuple #[.agg #[.int .i64 FN,.int .i64 FD],.int .i64 FE])∧Gr w w') :
  Calls Tryz.prog 117 #[.agg #[.int .i64 an,.int .i64 ad],.agg #[.int .i64 bn,.int .i64 bd]] w fun e w'=>
   e=.returned (.tuple #[.agg #[.int .i64 (FN),.int .i64 (FD)],.int .i64 (FE)])∧Gr w w':=by
 have HA:=Lib.hid HA
 have HB:=Lib.hid HB
 have HG:=Lib.hid HG
 have HP1:=Lib.hid HP1
 have HP2:=Lib.hid HP2
 have HS:=Lib.hid HS
 have HM:=Lib.hid HM
 have HG2:=Lib.hid HG2
 have HD:=Lib.hid HD
 have HPD:=Lib.hid HPD
 have HF:=Lib.hid HF
 have gz:(g == 0)=false:=by simp;omega
 have hz:(h == 0)=false:=by simp;omega
 generalize an * β=p1 at *
 generalize bn * α=p2 at *
 go_enter Tryz.func117,Tryz.ntmps117
 go_wp2_with (first
  | (go_at_call 119;with_reducible refine (HA.out _).mono ?_;rintro e w1 ⟨rfl,hg1⟩;obtain⟨hc1,hf1⟩:=hg1.cells;have hz1:=hg1.size;(try simp at hz1);(try have hl1_0_0:w.heap.size<w1.heap.size:=by omega);(try have hm1_0_0:w.heap.size≤w1.heap.size:=by omega);(try have hl1_0_1:w.heap.size+1<w1.heap.size:=by omega);(try have hl1_0_2:w.heap.size+2<w1.heap.size:=by omega))
  | (go_at_call 119;with_reducible refine (HB.out _).mono ?_;rintro e w2 ⟨rfl,hg2⟩;obtain⟨hc2,hf2⟩:=hg2.cells;have hz2:=hg2.size;(try simp at hz2);(try have hl2_0_0:w.heap.size<w2.heap.size:=by omega);(try have hm2_0_0:w.heap.size≤w2.heap.size:=by omega);(try have hl2_0_1:w.heap.size+1<w2.heap.size:=by omega);(try have hl2_0_2:w.heap.size+2<w2.heap.size:=by omega);(try have hl2_1_0:w1.heap.size<w2.heap.size:=by omega);(try have hm2_1_0:w1.heap.size≤w2.heap.size:=by omega);(try have hl2_1_1:w1.heap.size+1<w2.heap.size:=by omega);(try have hl2_1_2:w1.heap.size+2<w2.heap.size:=by omega))
  | (go_at_call 105;with_reducible refine (HG.out _).mono ?_;rintro e w3 ⟨rfl,hg3⟩;obtain⟨hc3,hf3⟩:=hg3.cells;have hz3:=hg3.size;(try simp at hz3);(try have hl3_0_0:w.heap.size<w3.heap.size:=by omega);(try have hm3_0_0:w.heap.size≤w3.heap.size:=by omega);(try have hl3_0_1:w.heap.size+1<w3.heap.size:=by omega);(try have hl3_0_2:w.heap.size+2<w3.heap.size:=by omega);(try have hl3_1_0:w1.heap.size<w3.heap.size:=by omega);(try have hm3_1_0:w1.heap.size≤w3.heap.size:=by omega);(try have hl3_1_1:w1.heap.size+1<w3.heap.size:=by omega);(try have hl3_1_2:w1.heap.size+2<w3.heap.size:=by omega);(try have hl3_2_0:w2.heap.size<w3.heap.size:=by omega);(try have hm3_2_0:w2.heap.size≤w3.heap.size:=by omega);(try have hl3_2_1:w2.heap.size+1<w3.heap.size:=by omega);(try have hl3_2_2:w2.heap.size+2<w3.heap.size:=by omega)))
 refine wp_region_made1 15 (.cells #[.bool false,.int .u64 0,.int .u64 0] 210) _ (by kernel_rfl) (by kernel_rfl) rfl rfl (fun a w=>by simp [execOp,go_sem]) (fun B hB hq1 hq2=>?_)
 simp only [List.take_succ_cons,List.take_zero,List.drop_succ_cons,List.drop_zero]
 repeat (first | go_big_quiet_skip | (go_big_quiet_want;go_big_quiet_op;first | go_big_quiet_on | (apply Exists.intro;refine⟨fun _=>?_,?_⟩;(· (first | (go_at_call 133;with_reducible exact gr_call (HP1.out _)) | (go_at_call 133;with_reducible exact gr_call (HP2.out _)) | (go_at_call 136;exact gr_call (HS.out _))));go_big_quiet_on)))
 refine wpQuiet_nil ?_
 clear hq1 hq2 hB
 rintro G w4 hg4 hs4_G hb4_G
 obtain⟨hc4,hf4⟩:=hg4.cells
 have hz4:=hg4.size
 (try simp at hz4);(try have hl4_0_0:w.heap.size<w4.heap.size:=by omega);(try have hm4_0_0:w.heap.size≤w4.heap.size:=by omega);(try have hl4_0_1:w.heap.size+1<w4.heap.size:=by omega);(try have hl4_0_2:w.heap.size+2<w4.heap.size:=by omega);(try have hl4_1_0:w1.heap.size<w4.heap.size:=by omega);(try have hm4_1_0:w1.heap.size≤w4.heap.size:=by omega);(try have hl4_1_1:w1.heap.size+1<w4.heap.size:=by omega);(try have hl4_1_2:w1.heap.size+2<w4.heap.size:=by omega);(try have hl4_2_0:w2.heap.size<w4.heap.size:=by omega);(try have hm4_2_0:w2.heap.size≤w4.heap.size:=by omega);(try have hl4_2_1:w2.heap.size+1<w4.heap.size:=by omega);(try have hl4_2_2:w2.heap.size+2<w4.heap.size:=by omega);(try have hl4_3_0:w3.heap.size<w4.heap.size:=by omega);(try have hm4_3_0:w3.heap.size≤w4.heap.size:=by omega);(try have hl4_3_1:w3.heap.size+1<w4.heap.size:=by omega);(try have hl4_3_2:w3.heap.size+2<w4.heap.size:=by omega)
 (try simp at hs4_G)
 have hx4_G:G<w4.heap.size:=lt_of_block hb4_G
 have hy4_G_0:=cells_of_block hb4_G 0
 have hv4_G_0:=mark_of_block hb4_G 0
 have hy4_G_1:=cells_of_block hb4_G 1
 have hv4_G_1:=mark_of_block hb4_G 1
 have hy4_G_2:=cells_of_block hb4_G 2
 have hv4_G_2:=mark_of_block hb4_G 2
 simp at hy4_G_0 hy4_G_1 hy4_G_2
 go_wp2_with fail
 refine calls_gen (R:=fun W=>w.heap.size+2<W.heap.size∧G<W.heap.size∧W.cell? ⟨G,0,none⟩=some (.bool (wN S))∧W.cell? ⟨G,1,none⟩=some (.int .u64 (wH S))∧W.cell? ⟨G,2,none⟩=some (.int .u64 (wL S))∧Gr (((w.alloc (.cells #[.int .i64 an,.int .i64 ad] 57)).alloc (.cells #[.int .i64 bn,.int .i64 bd] 57)).alloc (.cells #[.int .i64 0,.int .i64 0] 57)) W) ?_ ?_
 ·have hb:Gr (((w.alloc (.cells #[.int .i64 an,.int .i64 ad] 57)).alloc (.cells #[.int .i64 bn,.int .i64 bd] 57)).alloc (.cells #[.int .i64 0,.int .i64 0] 57)) w4:=hg1.trans (hg2.trans (hg3.trans hg4))
  refine⟨by simp;omega,by simp;omega,by simp [go_sem,hy4_G_0,hy4_G_1,hy4_G_2],by simp [go_sem,hy4_G_0,hy4_G_1,hy4_G_2],by simp [go_sem,hy4_G_0,hy4_G_1,hy4_G_2],?_⟩
  exact ((hb.setCell (by simp;omega) _).setCell (by simp;omega) _).setCell (by simp;omega) _
 clear hy4_G_0 hy4_G_1 hy4_G_2 hv4_G_0 hv4_G_1 hv4_G_2 hb4_G hc1 hc2 hc3 hc4 hf1 hf2 hf3 hf4
 rintro W ⟨hlW,hxW,hyW_G_0,hyW_G_1,hyW_G_2,hgW⟩
 obtain⟨hcW,hfW⟩:=hgW.cells
 have hlW0:w.heap.size<W.heap.size:=by omega
 have hlW1:w.heap.size+1<W.heap.size:=by omega
 with_reducible refine (HM.out _).mono ?_
 rintro e w5 ⟨rfl,hg5⟩
 obtain⟨hc5,hf5⟩:=hg5.cells
 have hz5:=hg5.size
 have hl5_0_0:w.heap.size<w5.heap.size:=by omega
 have hl5_0_1:w.heap.size+1<w5.heap.size:=by omega
 have hl5_0_2:w.heap.size+2<w5.heap.size:=by omega
 have hx5:G<w5.heap.size:=by omega
 go_wp2_with (first
  | ((go_at_call 105;with_reducible refine (HG2.out _).mono ?_;rintro e w6 ⟨rfl,hg6⟩;obtain⟨hc6,hf6⟩:=hg6.cells;have hz6:=hg6.size;(try simp at hz6);(try have hl6_0_0:w.heap.size<w6.heap.size:=by omega);(try have hm6_0_0:w.heap.size≤w6.heap.size:=by omega);(try have hl6_0_1:w.heap.size+1<w6.heap.size:=by omega);(try have hl6_0_2:w.heap.size+2<w6.heap.size:=by omega);(try have hl6_1_0:w1.heap.size<w6.heap.size:=by omega);(try have hm6_1_0:w1.heap.size≤w6.heap.size:=by omega);(try have hl6_1_1:w1.heap.size+1<w6.heap.size:=by omega);(try have hl6_1_2:w1.heap.size+2<w6.heap.size:=by omega);(try have hl6_2_0:w2.heap.size<w6.heap.size:=by omega);(try have hm6_2_0:w2.heap.size≤w6.heap.size:=by omega);(try have hl6_2_1:w2.heap.size+1<w6.heap.size:=by omega);(try have hl6_2_2:w2.heap.size+2<w6.heap.size:=by omega);(try have hl6_3_0:w3.heap.size<w6.heap.size:=by omega);(try have hm6_3_0:w3.heap.size≤w6.heap.size:=by omega);(try have hl6_3_1:w3.heap.size+1<w6.heap.size:=by omega);(try have hl6_3_2:w3.heap.size+2<w6.heap.size:=by omega);(try have hl6_4_0:w4.heap.size<w6.heap.size:=by omega);(try have hm6_4_0:w4.heap.size≤w6.heap.size:=by omega);(try have hl6_4_1:w4.heap.size+1<w6.heap.size:=by omega);(try have hl6_4_2:w4.heap.size+2<w6.heap.size:=by omega);(try have hl6_5_0:w5.heap.size<w6.heap.size:=by omega);(try have hm6_5_0:w5.heap.size≤w6.heap.size:=by omega);(try have hl6_5_1:w5.heap.size+1<w6.heap.size:=by omega);(try have hl6_5_2:w5.heap.size+2<w6.heap.size:=by omega));have hx6:G<w6.heap.size:=(by omega))
  | ((go_at_call 134;with_reducible refine (HD.out _).mono ?_;rintro e w7 ⟨rfl,hg7⟩;obtain⟨hc7,hf7⟩:=hg7.cells;have hz7:=hg7.size;(try simp at hz7);(try have hl7_0_0:w.heap.size<w7.heap.size:=by omega);(try have hm7_0_0:w.heap.size≤w7.heap.size:=by omega);(try have hl7_0_1:w.heap.size+1<w7.heap.size:=by omega);(try have hl7_0_2:w.heap.size+2<w7.heap.size:=by omega);(try have hl7_1_0:w1.heap.size<w7.heap.size:=by omega);(try have hm7_1_0:w1.heap.size≤w7.heap.size:=by omega);(try have hl7_1_1:w1.heap.size+1<w7.heap.size:=by omega);(try have hl7_1_2:w1.heap.size+2<w7.heap.size:=by omega);(try have hl7_2_0:w2.heap.size<w7.heap.size:=by omega);(try have hm7_2_0:w2.heap.size≤w7.heap.size:=by omega);(try have hl7_2_1:w2.heap.size+1<w7.heap.size:=by omega);(try have hl7_2_2:w2.heap.size+2<w7.heap.size:=by omega);(try have hl7_3_0:w3.heap.size<w7.heap.size:=by omega);(try have hm7_3_0:w3.heap.size≤w7.heap.size:=by omega);(try have hl7_3_1:w3.heap.size+1<w7.heap.size:=by omega);(try have hl7_3_2:w3.heap.size+2<w7.heap.size:=by omega);(try have hl7_4_0:w4.heap.size<w7.heap.size:=by omega);(try have hm7_4_0:w4.heap.size≤w7.heap.size:=by omega);(try have hl7_4_1:w4.heap.size+1<w7.heap.size:=by omega);(try have hl7_4_2:w4.heap.size+2<w7.heap.size:=by omega);(try have hl7_5_0:w5.heap.size<w7.heap.size:=by omega);(try have hm7_5_0:w5.heap.size≤w7.heap.size:=by omega);(try have hl7_5_1:w5.heap.size+1<w7.heap.size:=by omega);(try have hl7_5_2:w5.heap.size+2<w7.heap.size:=by omega);(try have hl7_6_0:w6.heap.size<w7.heap.size:=by omega);(try have hm7_6_0:w6.heap.size≤w7.heap.size:=by omega);(try have hl7_6_1:w6.heap.size+1<w7.heap.size:=by omega);(try have hl7_6_2:w6.heap.size+2<w7.heap.size:=by omega));have hx7:G<w7.heap.size:=(by omega)))
 refine wp_region_gr_tail 13 (by kernel_rfl) (by kernel_rfl) (fun hq1 hq2=>?_)
 simp only [List.take_succ_cons,List.take_zero,List.drop_succ_cons,List.drop_zero]
 repeat (first | go_big_quiet_skip | (go_big_quiet_want;go_big_quiet_op;first | go_big_quiet_on | (apply Exists.intro;refine⟨fun _=>?_,?_⟩;(· (first | (go_at_call 133;exact gr_call (HPD.out _)) | (go_at_call 135;exact gr_call (HF.out _))));go_big_quiet_on)))
 refine wpQuiet_nil ?_
 clear hq1 hq2
 rintro w8 ⟨⟨_,hg8⟩,rfl⟩
 obtain⟨hc8,hf8⟩:=hg8.cells
 have hz8:=hg8.size
 (try simp at hz8);(try have hl8_0_0:w.heap.size<w8.heap.size:=by omega);(try have hm8_0_0:w.heap.size≤w8.heap.size:=by omega);(try have hl8_0_1:w.heap.size+1<w8.heap.size:=by omega);(try have hl8_0_2:w.heap.size+2<w8.heap.size:=by omega);(try have hl8_1_0:w1.heap.size<w8.heap.size:=by omega);(try have hm8_1_0:w1.heap.size≤w8.heap.size:=by omega);(try have hl8_1_1:w1.heap.size+1<w8.heap.size:=by omega);(try have hl8_1_2:w1.heap.size+2<w8.heap.size:=by omega);(try have hl8_2_0:w2.heap.size<w8.heap.size:=by omega);(try have hm8_2_0:w2.heap.size≤w8.heap.size:=by omega);(try have hl8_2_1:w2.heap.size+1<w8.heap.size:=by omega);(try have hl8_2_2:w2.heap.size+2<w8.heap.size:=by omega);(try have hl8_3_0:w3.heap.size<w8.heap.size:=by omega);(try have hm8_3_0:w3.heap.size≤w8.heap.size:=by omega);(try have hl8_3_1:w3.heap.size+1<w8.heap.size:=by omega);(try have hl8_3_2:w3.heap.size+2<w8.heap.size:=by omega);(try have hl8_4_0:w4.heap.size<w8.heap.size:=by omega);(try have hm8_4_0:w4.heap.size≤w8.heap.size:=by omega);(try have hl8_4_1:w4.heap.size+1<w8.heap.size:=by omega);(try have hl8_4_2:w4.heap.size+2<w8.heap.size:=by omega);(try have hl8_5_0:w5.heap.size<w8.heap.size:=by omega);(try have hm8_5_0:w5.heap.size≤w8.heap.size:=by omega);(try have hl8_5_1:w5.heap.size+1<w8.heap.size:=by omega);(try have hl8_5_2:w5.heap.size+2<w8.heap.size:=by omega);(try have hl8_6_0:w6.heap.size<w8.heap.size:=by omega);(try have hm8_6_0:w6.heap.size≤w8.heap.size:=by omega);(try have hl8_6_1:w6.heap.size+1<w8.heap.size:=by omega);(try have hl8_6_2:w6.heap.size+2<w8.heap.size:=by omega);(try have hl8_7_0:w7.heap.size<w8.heap.size:=by omega);(try have hm8_7_0:w7.heap.size≤w8.heap.size:=by omega);(try have hl8_7_1:w7.heap.size+1<w8.heap.size:=by omega);(try have hl8_7_2:w7.heap.size+2<w8.heap.size:=by omega)
 go_wp2_with fail
 have hgL:Gr (((w.alloc (.cells #[.int .i64 an,.int .i64 ad] 57)).alloc (.cells #[.int .i64 bn,.int .i64 bd] 57)).alloc (.cells #[.int .i64 0,.int .i64 0] 57)) w8:=(by repeat (first | with_reducible exact Gr.refl _ | with_reducible assumption | refine Gr.setCell ?_ (by first | omega | (simp;done) | (simp;omega)) _ | refine Gr.alloc ?_ _ | refine Gr.drew ?_ | refine Gr.drewN ?_ _ | refine Gr.trans ?_ (by with_reducible assumption)))
 obtain⟨hcL,hfL⟩:=hgL.cells
 have tL0:=hcL (w.heap.size+2) 0 (by simp)
 have mL0:=hfL (w.heap.size+2) 0 (by simp)
 have tL1:=hcL (w.heap.size+2) 1 (by simp)
 have mL1:=hfL (w.heap.size+2) 1 (by simp)
 simp [go_sem] at tL0 mL0 tL1 mL1
 simp [bodyPost,results,Tryz.results117,go_sem,tL0,mL0,tL1,mL1]
 exact (by repeat (first | refine Gr.setCell ?_ (by first | omega | (simp;done) | (simp;omega)) _ | refine Gr.alloc ?_ _ | refine Gr.drew ?_ | refine Gr.drewN ?_ _ | with_reducible assumption | with_reducible exact Gr.refl _ | refine Gr.trans ?_ (by with_reducible assumption)))
set_option maxRecDepth 100000 in
set_option maxHeartbeats 8000000 in
theorem add_core_no (an ad bn bd g α β γ S M h Q r D FN FD FE:Int) (w:World) (a1:1≤ad) (a2:ad≤9223372036854775807) (b1:1≤bd) (b2:bd≤9223372036854775807)
  (g1:1≤g) (g2:g≤9223372036854775807) (h1:1≤h) (h2:h≤9223372036854775807) (hα:ad / g=α) (hβ:bd / g=β) (hγ:bd / h=γ)
  (HA:∀ w,Calls Tryz.prog 119 #[.agg #[.int .i64 an,.int .i64 ad]] w fun e w'=>e=.returned (.bool true)∧Gr w w')
  (HB:∀ w,Calls Tryz.prog 119 #[.agg #[.int .i64 bn,.int .i64 bd]] w fun e w'=>e=.returned (.bool true)∧Gr w w')
  (HG:∀ w,Calls Tryz.prog 105 #[.int .u64 ad,.int .u64 bd] w fun e w'=>e=.returned (.int .u64 g)∧Gr w w')
  (HP1:∀ w,Calls Tryz.prog 133 #[.int .i64 an,.int .i64 β] w fun e w'=>e=.returned (.agg #[.bool (wN (an * β)),.int .u64 (wH (an * β)),.int .u64 (wL (an * β))])∧Gr w w')
  (HP2:∀ w,Calls Tryz.prog 133 #[.int .i64 bn,.int .i64 α] w fun e w'=>e=.returned (.agg #[.bool (wN (bn * α)),.int .u64 (wH (bn * α)),.int .u64 (wL (bn * α))])∧Gr w w')
  (HS:∀ w,Calls Tryz.prog 136 #[.agg #[.bool (wN (an * β)),.int .u64 (wH (an * β)),.int .u64 (wL (an * β))],.agg #[.bool (wN (bn * α)),.int .u64 (wH (bn * α)),.int .u64 (wL (bn * α))]] w fun e w'=>e=.returned (.agg #[.bool (wN S),.int .u64 (wH S),.int .u64 (wL S)])∧Gr w w')
  (HM:∀ w,Calls Tryz.prog 137 #[.agg #[.bool (wN S),.int .u64 (wH S),.int .u64 (wL S)],.int .u64 g] w fun e w'=>e=.returned (.int .u64 M)∧Gr w w')
  (HG2:∀ w,Calls Tryz.prog 105 #[.int .u64 M,.int .u64 g] w fun e w'=>e=.returned (.int .u64 h)∧Gr w w')
  (HD:∀ w,Calls Tryz.prog 134 #[.agg #[.bool (wN S),.int .u64 (wH S),.int .u64 (wL S)],.int .u64 h] w fun e w'=>e=.returned (.tuple #[.int .i64 Q,.int .u64 r,.bool false])∧Gr w w') :
  Calls Tryz.prog 117 #[.agg #[.int .i64 an,.int .i64 ad],.agg #[.int .i64 bn,.int .i64 bd]] w fun e w'=>
   e=.returned (.tuple #[.agg #[.int .i64 0,.int .i64 0],.int .i64 2])∧Gr w w':=by
 have HA:=Lib.hid HA
 have HB:=Lib.hid HB
 have HG:=Lib.hid HG
 have HP1:=Lib.hid HP1
 have HP2:=Lib.hid HP2
 have HS:=Lib.hid HS
 have HM:=Lib.hid HM
 have HG2:=Lib.hid HG2
 have HD:=Lib.hid HD
 have gz:(g == 0)=false:=by simp;omega
 have hz:(h == 0)=false:=by simp;omega
 generalize an * β=p1 at *
 generalize bn * α=p2 at *
 go_enter Tryz.func117,Tryz.ntmps117
 go_wp2_with (first
  | (go_at_call 119;with_reducible refine (HA.out _).mono ?_;rintro e w1 ⟨rfl,hg1⟩;obtain⟨hc1,hf1⟩:=hg1.cells;have hz1:=hg1.size;(try simp at hz1);(try have hl1_0_0:w.heap.size<w1.heap.size:=by omega);(try have hm1_0_0:w.heap.size≤w1.heap.size:=by omega);(try have hl1_0_1:w.heap.size+1<w1.heap.size:=by omega);(try have hl1_0_2:w.heap.size+2<w1.heap.size:=by omega))
  | (go_at_call 119;with_reducible refine (HB.out _).mono ?_;rintro e w2 ⟨rfl,hg2⟩;obtain⟨hc2,hf2⟩:=hg2.cells;have hz2:=hg2.size;(try simp at hz2);(try have hl2_0_0:w.heap.size<w2.heap.size:=by omega);(try have hm2_0_0:w.heap.size≤w2.heap.size:=by omega);(try have hl2_0_1:w.heap.size+1<w2.heap.size:=by omega);(try have hl2_0_2:w.heap.size+2<w2.heap.size:=by omega);(try have hl2_1_0:w1.heap.size<w2.heap.size:=by omega);(try have hm2_1_0:w1.heap.size≤w2.heap.size:=by omega);(try have hl2_1_1:w1.heap.size+1<w2.heap.size:=by omega);(try have hl2_1_2:w1.heap.size+2<w2.heap.size:=by omega))
  | (go_at_call 105;with_reducible refine (HG.out _).mono ?_;rintro e w3 ⟨rfl,hg3⟩;obtain⟨hc3,hf3⟩:=hg3.cells;have hz3:=hg3.size;(try simp at hz3);(try have hl3_0_0:w.heap.size<w3.heap.size:=by omega);(try have hm3_0_0:w.heap.size≤w3.heap.size:=by omega);(try have hl3_0_1:w.heap.size+1<w3.heap.size:=by omega);(try have hl3_0_2:w.heap.size+2<w3.heap.size:=by omega);(try have hl3_1_0:w1.heap.size<w3.heap.size:=by omega);(try have hm3_1_0:w1.heap.size≤w3.heap.size:=by omega);(try have hl3_1_1:w1.heap.size+1<w3.heap.size:=by omega);(try have hl3_1_2:w1.heap.size+2<w3.heap.size:=by omega);(try have hl3_2_0:w2.heap.size<w3.heap.size:=by omega);(try have hm3_2_0:w2.heap.size≤w3.heap.size:=by omega);(try have hl3_2_1:w2.heap.size+1<w3.heap.size:=by omega);(try have hl3_2_2:w2.heap.size+2<w3.heap.size:=by omega)))
 refine wp_region_made1 15 (.cells #[.bool false,.int .u64 0,.int .u64 0] 210) _ (by kernel_rfl) (by kernel_rfl) rfl rfl (fun a w=>by simp [execOp,go_sem]) (fun B hB hq1 hq2=>?_)
 simp only [List.take_succ_cons,List.take_zero,List.drop_succ_cons,List.drop_zero]
 repeat (first | go_big_quiet_skip | (go_big_quiet_want;go_big_quiet_op;first | go_big_quiet_on | (apply Exists.intro;refine⟨fun _=>?_,?_⟩;(· (first | (go_at_call 133;with_reducible exact gr_call (HP1.out _)) | (go_at_call 133;with_reducible exact gr_call (HP2.out _)) | (go_at_call 136;exact gr_call (HS.out _))));go_big_quiet_on)))
 refine wpQuiet_nil ?_
 clear hq1 hq2 hB
 rintro G w4 hg4 hs4_G hb4_G
 obtain⟨hc4,hf4⟩:=hg4.cells
 have hz4:=hg4.size
 (try simp at hz4);(try have hl4_0_0:w.heap.size<w4.heap.size:=by omega);(try have hm4_0_0:w.heap.size≤w4.heap.size:=by omega);(try have hl4_0_1:w.heap.size+1<w4.heap.size:=by omega);(try have hl4_0_2:w.heap.size+2<w4.heap.size:=by omega);(try have hl4_1_0:w1.heap.size<w4.heap.size:=by omega);(try have hm4_1_0:w1.heap.size≤w4.heap.size:=by omega);(try have hl4_1_1:w1.heap.size+1<w4.heap.size:=by omega);(try have hl4_1_2:w1.heap.size+2<w4.heap.size:=by omega);(try have hl4_2_0:w2.heap.size<w4.heap.size:=by omega);(try have hm4_2_0:w2.heap.size≤w4.heap.size:=by omega);(try have hl4_2_1:w2.heap.size+1<w4.heap.size:=by omega);(try have hl4_2_2:w2.heap.size+2<w4.heap.size:=by omega);(try have hl4_3_0:w3.heap.size<w4.heap.size:=by omega);(try have hm4_3_0:w3.heap.size≤w4.heap.size:=by omega);(try have hl4_3_1:w3.heap.size+1<w4.heap.size:=by omega);(try have hl4_3_2:w3.heap.size+2<w4.heap.size:=by omega)
 (try simp at hs4_G)
 have hx4_G:G<w4.heap.size:=lt_of_block hb4_G
 have hy4_G_0:=cells_of_block hb4_G 0
 have hv4_G_0:=mark_of_block hb4_G 0
 have hy4_G_1:=cells_of_block hb4_G 1
 have hv4_G_1:=mark_of_block hb4_G 1
 have hy4_G_2:=cells_of_block hb4_G 2
 have hv4_G_2:=mark_of_block hb4_G 2
 simp at hy4_G_0 hy4_G_1 hy4_G_2
 go_wp2_with fail
 refine calls_gen (R:=fun W=>w.heap.size+2<W.heap.size∧G<W.heap.size∧W.cell? ⟨G,0,none⟩=some (.bool (wN S))∧W.cell? ⟨G,1,none⟩=some (.int .u64 (wH S))∧W.cell? ⟨G,2,none⟩=some (.int .u64 (wL S))∧Gr (((w.alloc (.cells #[.int .i64 an,.int .i64 ad] 57)).alloc (.cells #[.int .i64 bn,.int .i64 bd] 57)).alloc (.cells #[.int .i64 0,.int .i64 0] 57)) W) ?_ ?_
 ·have hb:Gr (((w.alloc (.cells #[.int .i64 an,.int .i64 ad] 57)).alloc (.cells #[.int .i64 bn,.int .i64 bd] 57)).alloc (.cells #[.int .i64 0,.int .i64 0] 57)) w4:=hg1.trans (hg2.trans (hg3.trans hg4))
  refine⟨by simp;omega,by simp;omega,by simp [go_sem,hy4_G_0,hy4_G_1,hy4_G_2],by simp [go_sem,hy4_G_0,hy4_G_1,hy4_G_2],by simp [go_sem,hy4_G_0,hy4_G_1,hy4_G_2],?_⟩
  exact ((hb.setCell (by simp;omega) _).setCell (by simp;omega) _).setCell (by simp;omega) _
 clear hy4_G_0 hy4_G_1 hy4_G_2 hv4_G_0 hv4_G_1 hv4_G_2 hb4_G hc1 hc2 hc3 hc4 hf1 hf2 hf3 hf4
 rintro W ⟨hlW,hxW,hyW_G_0,hyW_G_1,hyW_G_2,hgW⟩
 obtain⟨hcW,hfW⟩:=hgW.cells
 have hlW0:w.heap.size<W.heap.size:=by omega
 have hlW1:w.heap.size+1<W.heap.size:=by omega
 with_reducible refine (HM.out _).mono ?_
 rintro e w5 ⟨rfl,hg5⟩
 obtain⟨hc5,hf5⟩:=hg5.cells
 have hz5:=hg5.size
 have hl5_0_0:w.heap.size<w5.heap.size:=by omega
 have hl5_0_1:w.heap.size+1<w5.heap.size:=by omega
 have hl5_0_2:w.heap.size+2<w5.heap.size:=by omega
 have hx5:G<w5.heap.size:=by omega
 go_wp2_with (first
  | ((go_at_call 105;with_reducible refine (HG2.out _).mono ?_;rintro e w6 ⟨rfl,hg6⟩;obtain⟨hc6,hf6⟩:=hg6.cells;have hz6:=hg6.size;(try simp at hz6);(try have hl6_0_0:w.heap.size<w6.heap.size:=by omega);(try have hm6_0_0:w.heap.size≤w6.heap.size:=by omega);(try have hl6_0_1:w.heap.size+1<w6.heap.size:=by omega);(try have hl6_0_2:w.heap.size+2<w6.heap.size:=by omega);(try have hl6_1_0:w1.heap.size<w6.heap.size:=by omega);(try have hm6_1_0:w1.heap.size≤w6.heap.size:=by omega);(try have hl6_1_1:w1.heap.size+1<w6.heap.size:=by omega);(try have hl6_1_2:w1.heap.size+2<w6.heap.size:=by omega);(try have hl6_2_0:w2.heap.size<w6.heap.size:=by omega);(try have hm6_2_0:w2.heap.size≤w6.heap.size:=by omega);(try have hl6_2_1:w2.heap.size+1<w6.heap.size:=by omega);(try have hl6_2_2:w2.heap.size+2<w6.heap.size:=by omega);(try have hl6_3_0:w3.heap.size<w6.heap.size:=by omega);(try have hm6_3_0:w3.heap.size≤w6.heap.size:=by omega);(try have hl6_3_1:w3.heap.size+1<w6.heap.size:=by omega);(try have hl6_3_2:w3.heap.size+2<w6.heap.size:=by omega);(try have hl6_4_0:w4.heap.size<w6.heap.size:=by omega);(try have hm6_4_0:w4.heap.size≤w6.heap.size:=by omega);(try have hl6_4_1:w4.heap.size+1<w6.heap.size:=by omega);(try have hl6_4_2:w4.heap.size+2<w6.heap.size:=by omega);(try have hl6_5_0:w5.heap.size<w6.heap.size:=by omega);(try have hm6_5_0:w5.heap.size≤w6.heap.size:=by omega);(try have hl6_5_1:w5.heap.size+1<w6.heap.size:=by omega);(try have hl6_5_2:w5.heap.size+2<w6.heap.size:=by omega));have hx6:G<w6.heap.size:=(by omega))
  | ((go_at_call 134;with_reducible refine (HD.out _).mono ?_;rintro e w7 ⟨rfl,hg7⟩;obtain⟨hc7,hf7⟩:=hg7.cells;have hz7:=hg7.size;(try simp at hz7);(try have hl7_0_0:w.heap.size<w7.heap.size:=by omega);(try have hm7_0_0:w.heap.size≤w7.heap.size:=by omega);(try have hl7_0_1:w.heap.size+1<w7.heap.size:=by omega);(try have hl7_0_2:w.heap.size+2<w7.heap.size:=by omega);(try have hl7_1_0:w1.heap.size<w7.heap.size:=by omega);(try have hm7_1_0:w1.heap.size≤w7.heap.size:=by omega);(try have hl7_1_1:w1.heap.size+1<w7.heap.size:=by omega);(try have hl7_1_2:w1.heap.size+2<w7.heap.size:=by omega);(try have hl7_2_0:w2.heap.size<w7.heap.size:=by omega);(try have hm7_2_0:w2.heap.size≤w7.heap.size:=by omega);(try have hl7_2_1:w2.heap.size+1<w7.heap.size:=by omega);(try have hl7_2_2:w2.heap.size+2<w7.heap.size:=by omega);(try have hl7_3_0:w3.heap.size<w7.heap.size:=by omega);(try have hm7_3_0:w3.heap.size≤w7.heap.size:=by omega);(try have hl7_3_1:w3.heap.size+1<w7.heap.size:=by omega);(try have hl7_3_2:w3.heap.size+2<w7.heap.size:=by omega);(try have hl7_4_0:w4.heap.size<w7.heap.size:=by omega);(try have hm7_4_0:w4.heap.size≤w7.heap.size:=by omega);(try have hl7_4_1:w4.heap.size+1<w7.heap.size:=by omega);(try have hl7_4_2:w4.heap.size+2<w7.heap.size:=by omega);(try have hl7_5_0:w5.heap.size<w7.heap.size:=by omega);(try have hm7_5_0:w5.heap.size≤w7.heap.size:=by omega);(try have hl7_5_1:w5.heap.size+1<w7.heap.size:=by omega);(try have hl7_5_2:w5.heap.size+2<w7.heap.size:=by omega);(try have hl7_6_0:w6.heap.size<w7.heap.size:=by omega);(try have hm7_6_0:w6.heap.size≤w7.heap.size:=by omega);(try have hl7_6_1:w6.heap.size+1<w7.heap.size:=by omega);(try have hl7_6_2:w6.heap.size+2<w7.heap.size:=by omega));have hx7:G<w7.heap.size:=(by omega)))
 have hgL:Gr (((w.alloc (.cells #[.int .i64 an,.int .i64 ad] 57)).alloc (.cells #[.int .i64 bn,.int .i64 bd] 57)).alloc (.cells #[.int .i64 0,.int .i64 0] 57)) w7:=(by repeat (first | with_reducible exact Gr.refl _ | with_reducible assumption | refine Gr.setCell ?_ (by first | omega | (simp;done) | (simp;omega)) _ | refine Gr.alloc ?_ _ | refine Gr.drew ?_ | refine Gr.drewN ?_ _ | refine Gr.trans ?_ (by with_reducible assumption)))
 obtain⟨hcL,hfL⟩:=hgL.cells
 have tL0:=hcL (w.heap.size+2) 0 (by simp)
 have mL0:=hfL (w.heap.size+2) 0 (by simp)
 have tL1:=hcL (w.heap.size+2) 1 (by simp)
 have mL1:=hfL (w.heap.size+2) 1 (by simp)
 simp [go_sem] at tL0 mL0 tL1 mL1
 simp [bodyPost,results,Tryz.results117,go_sem,tL0,mL0,tL1,mL1]
 exact (by repeat (first | refine Gr.setCell ?_ (by first | omega | (simp;done) | (simp;omega)) _ | refine Gr.alloc ?_ _ | refine Gr.drew ?_ | refine Gr.drewN ?_ _ | with_reducible assumption | with_reducible exact Gr.refl _ | refine Gr.trans ?_ (by with_reducible assumption)))
theorem quot_in {n g:Int} (hg:1≤g) (h1:-9223372036854775808≤n) (h2:n≤9223372036854775807):-9223372036854775808≤n / g∧n / g≤9223372036854775807:=by
 constructor
 ·apply Int.le_ediv_of_mul_le (by omega)
  have:-9223372036854775808 * g≤-9223372036854775808 * 1:=Int.mul_le_mul_of_nonpos_left (by omega) (by omega)
  omega
 ·apply Int.le_of_lt_add_one
  apply Int.ediv_lt_of_lt_mul (by omega)
  have:(9223372036854775807+1) * 1≤(9223372036854775807+1) * g:=Int.mul_le_mul_of_nonneg_left (by omega) (by omega)
  omega
set_option maxRecDepth 100000 in
set_option maxHeartbeats 8000000 in
theorem mul_core_yes (an ad bn bd g h α β γ δ v Q r D FN FD FE:Int) (w:World) (a1:1≤ad) (a2:ad≤9223372036854775807) (b1:1≤bd) (b2:bd≤9223372036854775807) (an1:I64 an) (bn1:I64 bn)
  (g1:1≤g) (g2:g≤9223372036854775807) (h1:1≤h) (h2:h≤9223372036854775807) (hα:an.tdiv g=α) (hα':an / g=α) (hγ:bn.tdiv h=γ) (hγ':bn / h=γ) (hβ:bd / g=β) (hδ:ad / h=δ)
  (HA:∀ w,Calls Tryz.prog 119 #[.agg #[.int .i64 an,.int .i64 ad]] w fun e w'=>e=.returned (.bool true)∧Gr w w')
  (HB:∀ w,Calls Tryz.prog 119 #[.agg #[.int .i64 bn,.int .i64 bd]] w fun e w'=>e=.returned (.bool true)∧Gr w w')
  (HG:∀ w,Calls Tryz.prog 105 #[.int .u64 (mg an),.int .u64 bd] w fun e w'=>e=.returned (.int .u64 g)∧Gr w w')
  (HH:∀ w,Calls Tryz.prog 105 #[.int .u64 (mg bn),.int .u64 ad] w fun e w'=>e=.returned (.int .u64 h)∧Gr w w')
  (HP:∀ w,Calls Tryz.prog 133 #[.int .i64 α,.int .i64 γ] w fun e w'=>e=.returned (.agg #[.bool (wN v),.int .u64 (wH v),.int .u64 (wL v)])∧Gr w w')
  (HD:∀ w,Calls Tryz.prog 134 #[.agg #[.bool (wN v),.int .u64 (wH v),.int .u64 (wL v)],.int .u64 1] w fun e w'=>e=.returned (.tuple #[.int .i64 Q,.int .u64 r,.bool true])∧Gr w w')
  (HPD:∀ w,Calls Tryz.prog 133 #[.int .i64 δ,.int .i64 β] w fun e w'=>e=.returned (.agg #[.bool (wN D),.int .u64 (wH D),.int .u64 (wL D)])∧Gr w w')
  (HF:∀ w,Calls Tryz.prog 135 #[.int .i64 Q,.agg #[.bool (wN D),.int .u64 (wH D),.int .u64 (wL D)]] w fun e w'=>e=.returned (.tuple #[.agg #[.int .i64 FN,.int .i64 FD],.int .i64 FE])∧Gr w w') :
  Calls Tryz.prog 116 #[.agg #[.int .i64 an,.int .i64 ad],.agg #[.int .i64 bn,.int .i64 bd]] w fun e w'=>e=.returned (.tuple #[.agg #[.int .i64 FN,.int .i64 FD],.int .i64 FE])∧Gr w w':=by
 have HA:=Lib.hid HA
 have HB:=Lib.hid HB
 have HG:=Lib.hid HG
 have HH:=Lib.hid HH
 have HP:=Lib.hid HP
 have HD:=Lib.hid HD
 have HPD:=Lib.hid HPD
 have HF:=Lib.hid HF
 have HX:=Lib.hid (fun w=>magnitude_any an w an1.1 an1.2)
 have HY:=Lib.hid (fun w=>magnitude_any bn w bn1.1 bn1.2)
 obtain⟨an1,an2⟩:=an1
 obtain⟨bn1,bn2⟩:=bn1
 have gz:(g == 0)=false:=by simp;omega
 have hz:(h == 0)=false:=by simp;omega
 have qa:=quot_in g1 an1 an2
 have qb:=quot_in h1 bn1 bn2
 rw [hα'] at qa
 rw [hγ'] at qb
 obtain⟨qa1,qa2⟩:=qa
 obtain⟨qb1,qb2⟩:=qb
 have wα:IntKind.i64.wrap (an.tdiv g)=α:=by rw [hα];exact IntWalk.i64_in _ (by omega)
 have wγ:IntKind.i64.wrap (bn.tdiv h)=γ:=by rw [hγ];exact IntWalk.i64_in _ (by omega)
 have ma:=mg_nonneg an
 have mb:=mg_nonneg bn
 go_enter Tryz.func116,Tryz.ntmps116
 go_wp2_with (first
  | (go_at_call 119;with_reducible refine (HA.out _).mono ?_;rintro e w1 ⟨rfl,hg1⟩;obtain⟨hc1,hf1⟩:=hg1.cells;have hz1:=hg1.size;(try simp at hz1);(try have hl1_0_0:w.heap.size<w1.heap.size:=by omega);(try have hm1_0_0:w.heap.size≤w1.heap.size:=by omega);(try have hl1_0_1:w.heap.size+1<w1.heap.size:=by omega);(try have hl1_0_2:w.heap.size+2<w1.heap.size:=by omega))
  | (go_at_call 119;with_reducible refine (HB.out _).mono ?_;rintro e w2 ⟨rfl,hg2⟩;obtain⟨hc2,hf2⟩:=hg2.cells;have hz2:=hg2.size;(try simp at hz2);(try have hl2_0_0:w.heap.size<w2.heap.size:=by omega);(try have hm2_0_0:w.heap.size≤w2.heap.size:=by omega);(try have hl2_0_1:w.heap.size+1<w2.heap.size:=by omega);(try have hl2_0_2:w.heap.size+2<w2.heap.size:=by omega);(try have hl2_1_0:w1.heap.size<w2.heap.size:=by omega);(try have hm2_1_0:w1.heap.size≤w2.heap.size:=by omega);(try have hl2_1_1:w1.heap.size+1<w2.heap.size:=by omega);(try have hl2_1_2:w1.heap.size+2<w2.heap.size:=by omega)))
 refine wp_region_gr (by kernel_rfl) (by kernel_rfl) (fun hq1 hq2=>?_)
 repeat (first | go_big_quiet_skip | (go_big_quiet_want;go_big_quiet_op;first | go_big_quiet_on | (apply Exists.intro;refine⟨fun _=>?_,?_⟩;(· (first | (go_at_call 104;exact gr_call_same (HX.out _)) | (go_at_call 105;exact gr_call (HG.out _))));go_big_quiet_on)))
 refine wpQuiet_nil ?_
 clear hq1 hq2
 rintro w3 ⟨⟨_,hg3⟩,rfl⟩
 obtain⟨hc3,hf3⟩:=hg3.cells
 have hz3:=hg3.size
 (try simp at hz3);(try have hl3_0_0:w.heap.size<w3.heap.size:=by omega);(try have hm3_0_0:w.heap.size≤w3.heap.size:=by omega);(try have hl3_0_1:w.heap.size+1<w3.heap.size:=by omega);(try have hl3_0_2:w.heap.size+2<w3.heap.size:=by omega);(try have hl3_1_0:w1.heap.size<w3.heap.size:=by omega);(try have hm3_1_0:w1.heap.size≤w3.heap.size:=by omega);(try have hl3_1_1:w1.heap.size+1<w3.heap.size:=by omega);(try have hl3_1_2:w1.heap.size+2<w3.heap.size:=by omega);(try have hl3_2_0:w2.heap.size<w3.heap.size:=by omega);(try have hm3_2_0:w2.heap.size≤w3.heap.size:=by omega);(try have hl3_2_1:w2.heap.size+1<w3.heap.size:=by omega);(try have hl3_2_2:w2.heap.size+2<w3.heap.size:=by omega)
 go_wp2_with fail
 refine wp_region_gr (by kernel_rfl) (by kernel_rfl) (fun hq1 hq2=>?_)
 repeat (first | go_big_quiet_skip | (go_big_quiet_want;go_big_quiet_op;first | go_big_quiet_on | (apply Exists.intro;refine⟨fun _=>?_,?_⟩;(· (first | (go_at_call 104;exact gr_call_same (HY.out _)) | (go_at_call 105;exact gr_call (HH.out _))));go_big_quiet_on)))
 refine wpQuiet_nil ?_
 clear hq1 hq2
 rintro w4 ⟨⟨_,hg4⟩,rfl⟩
 obtain⟨hc4,hf4⟩:=hg4.cells
 have hz4:=hg4.size
 (try simp at hz4);(try have hl4_0_0:w.heap.size<w4.heap.size:=by omega);(try have hm4_0_0:w.heap.size≤w4.heap.size:=by omega);(try have hl4_0_1:w.heap.size+1<w4.heap.size:=by omega);(try have hl4_0_2:w.heap.size+2<w4.heap.size:=by omega);(try have hl4_1_0:w1.heap.size<w4.heap.size:=by omega);(try have hm4_1_0:w1.heap.size≤w4.heap.size:=by omega);(try have hl4_1_1:w1.heap.size+1<w4.heap.size:=by omega);(try have hl4_1_2:w1.heap.size+2<w4.heap.size:=by omega);(try have hl4_2_0:w2.heap.size<w4.heap.size:=by omega);(try have hm4_2_0:w2.heap.size≤w4.heap.size:=by omega);(try have hl4_2_1:w2.heap.size+1<w4.heap.size:=by omega);(try have hl4_2_2:w2.heap.size+2<w4.heap.size:=by omega);(try have hl4_3_0:w3.heap.size<w4.heap.size:=by omega);(try have hm4_3_0:w3.heap.size≤w4.heap.size:=by omega);(try have hl4_3_1:w3.heap.size+1<w4.heap.size:=by omega);(try have hl4_3_2:w3.heap.size+2<w4.heap.size:=by omega)
 go_wp2_with fail
 refine wp_region_gr (by kernel_rfl) (by kernel_rfl) (fun hq1 hq2=>?_)
 repeat (first | go_big_quiet_skip | (go_big_quiet_want;go_big_quiet_op;first | go_big_quiet_on | (apply Exists.intro;refine⟨fun _=>?_,?_⟩;(· (first | (go_at_call 133;with_reducible exact gr_call (HP.out _)) | (go_at_call 134;with_reducible exact gr_call (HD.out _))));go_big_quiet_on)))
 refine wpQuiet_nil ?_
 clear hq1 hq2
 rintro w5 ⟨⟨_,hg5⟩,rfl⟩
 obtain⟨hc5,hf5⟩:=hg5.cells
 have hz5:=hg5.size
 (try simp at hz5);(try have hl5_0_0:w.heap.size<w5.heap.size:=by omega);(try have hm5_0_0:w.heap.size≤w5.heap.size:=by omega);(try have hl5_0_1:w.heap.size+1<w5.heap.size:=by omega);(try have hl5_0_2:w.heap.size+2<w5.heap.size:=by omega);(try have hl5_1_0:w1.heap.size<w5.heap.size:=by omega);(try have hm5_1_0:w1.heap.size≤w5.heap.size:=by omega);(try have hl5_1_1:w1.heap.size+1<w5.heap.size:=by omega);(try have hl5_1_2:w1.heap.size+2<w5.heap.size:=by omega);(try have hl5_2_0:w2.heap.size<w5.heap.size:=by omega);(try have hm5_2_0:w2.heap.size≤w5.heap.size:=by omega);(try have hl5_2_1:w2.heap.size+1<w5.heap.size:=by omega);(try have hl5_2_2:w2.heap.size+2<w5.heap.size:=by omega);(try have hl5_3_0:w3.heap.size<w5.heap.size:=by omega);(try have hm5_3_0:w3.heap.size≤w5.heap.size:=by omega);(try have hl5_3_1:w3.heap.size+1<w5.heap.size:=by omega);(try have hl5_3_2:w3.heap.size+2<w5.heap.size:=by omega);(try have hl5_4_0:w4.heap.size<w5.heap.size:=by omega);(try have hm5_4_0:w4.heap.size≤w5.heap.size:=by omega);(try have hl5_4_1:w4.heap.size+1<w5.heap.size:=by omega);(try have hl5_4_2:w4.heap.size+2<w5.heap.size:=by omega)
 go_wp2_with fail
 refine wp_region_gr_tail 13 (by kernel_rfl) (by kernel_rfl) (fun hq1 hq2=>?_)
 simp only [List.take_succ_cons,List.take_zero,List.drop_succ_cons,List.drop_zero]
 repeat (first | go_big_quiet_skip | (go_big_quiet_want;go_big_quiet_op;first | go_big_quiet_on | (apply Exists.intro;refine⟨fun _=>?_,?_⟩;(· (first | (go_at_call 133;with_reducible exact gr_call (HPD.out _)) | (go_at_call 135;with_reducible exact gr_call (HF.out _))));go_big_quiet_on)))
 refine wpQuiet_nil ?_
 clear hq1 hq2
 rintro w8 ⟨⟨_,hg8⟩,rfl⟩
 obtain⟨hc8,hf8⟩:=hg8.cells
 have hz8:=hg8.size
 (try simp at hz8);(try have hl8_0_0:w.heap.size<w8.heap.size:=by omega);(try have hm8_0_0:w.heap.size≤w8.heap.size:=by omega);(try have hl8_0_1:w.heap.size+1<w8.heap.size:=by omega);(try have hl8_0_2:w.heap.size+2<w8.heap.size:=by omega);(try have hl8_1_0:w1.heap.size<w8.heap.size:=by omega);(try have hm8_1_0:w1.heap.size≤w8.heap.size:=by omega);(try have hl8_1_1:w1.heap.size+1<w8.heap.size:=by omega);(try have hl8_1_2:w1.heap.size+2<w8.heap.size:=by omega);(try have hl8_2_0:w2.heap.size<w8.heap.size:=by omega);(try have hm8_2_0:w2.heap.size≤w8.heap.size:=by omega);(try have hl8_2_1:w2.heap.size+1<w8.heap.size:=by omega);(try have hl8_2_2:w2.heap.size+2<w8.heap.size:=by omega);(try have hl8_3_0:w3.heap.size<w8.heap.size:=by omega);(try have hm8_3_0:w3.heap.size≤w8.heap.size:=by omega);(try have hl8_3_1:w3.heap.size+1<w8.heap.size:=by omega);(try have hl8_3_2:w3.heap.size+2<w8.heap.size:=by omega);(try have hl8_4_0:w4.heap.size<w8.heap.size:=by omega);(try have hm8_4_0:w4.heap.size≤w8.heap.size:=by omega);(try have hl8_4_1:w4.heap.size+1<w8.heap.size:=by omega);(try have hl8_4_2:w4.heap.size+2<w8.heap.size:=by omega);(try have hl8_5_0:w5.heap.size<w8.heap.size:=by omega);(try have hm8_5_0:w5.heap.size≤w8.heap.size:=by omega);(try have hl8_5_1:w5.heap.size+1<w8.heap.size:=by omega);(try have hl8_5_2:w5.heap.size+2<w8.heap.size:=by omega);(try have hl8_6_0:w6.heap.size<w8.heap.size:=by omega);(try have hm8_6_0:w6.heap.size≤w8.heap.size:=by omega);(try have hl8_6_1:w6.heap.size+1<w8.heap.size:=by omega);(try have hl8_6_2:w6.heap.size+2<w8.heap.size:=by omega);(try have hl8_7_0:w7.heap.size<w8.heap.size:=by omega);(try have hm8_7_0:w7.heap.size≤w8.heap.size:=by omega);(try have hl8_7_1:w7.heap.size+1<w8.heap.size:=by omega);(try have hl8_7_2:w7.heap.size+2<w8.heap.size:=by omega)
 go_wp2_with fail
 have hgL:Gr (((w.alloc (.cells #[.int .i64 an,.int .i64 ad] 57)).alloc (.cells #[.int .i64 bn,.int .i64 bd] 57)).alloc (.cells #[.int .i64 0,.int .i64 0] 57)) w8:=(by repeat (first | with_reducible exact Gr.refl _ | with_reducible assumption | refine Gr.setCell ?_ (by first | omega | (simp;done) | (simp;omega)) _ | refine Gr.alloc ?_ _ | refine Gr.drew ?_ | refine Gr.drewN ?_ _ | refine Gr.trans ?_ (by with_reducible assumption)))
 obtain⟨hcL,hfL⟩:=hgL.cells
 have tL0:=hcL (w.heap.size+2) 0 (by simp)
 have mL0:=hfL (w.heap.size+2) 0 (by simp)
 have tL1:=hcL (w.heap.size+2) 1 (by simp)
 have mL1:=hfL (w.heap.size+2) 1 (by simp)
 simp [go_sem] at tL0 mL0 tL1 mL1
 simp [bodyPost,results,Tryz.results116,go_sem,tL0,mL0,tL1,mL1]
 exact (by repeat (first | refine Gr.setCell ?_ (by first | omega | (simp;done) | (simp;omega)) _ | refine Gr.alloc ?_ _ | refine Gr.drew ?_ | refine Gr.drewN ?_ _ | with_reducible assumption | with_reducible exact Gr.refl _ | refine Gr.trans ?_ (by with_reducible assumption)))
set_option maxRecDepth 100000 in
set_option maxHeartbeats 8000000 in
theorem mul_core_no (an ad bn bd g h α β γ δ v Q r D FN FD FE:Int) (w:World) (a1:1≤ad) (a2:ad≤9223372036854775807) (b1:1≤bd) (b2:bd≤9223372036854775807) (an1:I64 an) (bn1:I64 bn)
  (g1:1≤g) (g2:g≤9223372036854775807) (h1:1≤h) (h2:h≤9223372036854775807) (hα:an.tdiv g=α) (hα':an / g=α) (hγ:bn.tdiv h=γ) (hγ':bn / h=γ) (hβ:bd / g=β) (hδ:ad / h=δ)
  (HA:∀ w,Calls Tryz.prog 119 #[.agg #[.int .i64 an,.int .i64 ad]] w fun e w'=>e=.returned (.bool true)∧Gr w w')
  (HB:∀ w,Calls Tryz.prog 119 #[.agg #[.int .i64 bn,.int .i64 bd]] w fun e w'=>e=.returned (.bool true)∧Gr w w')
  (HG:∀ w,Calls Tryz.prog 105 #[.int .u64 (mg an),.int .u64 bd] w fun e w'=>e=.returned (.int .u64 g)∧Gr w w')
  (HH:∀ w,Calls Tryz.prog 105 #[.int .u64 (mg bn),.int .u64 ad] w fun e w'=>e=.returned (.int .u64 h)∧Gr w w')
  (HP:∀ w,Calls Tryz.prog 133 #[.int .i64 α,.int .i64 γ] w fun e w'=>e=.returned (.agg #[.bool (wN v),.int .u64 (wH v),.int .u64 (wL v)])∧Gr w w')
  (HD:∀ w,Calls Tryz.prog 134 #[.agg #[.bool (wN v),.int .u64 (wH v),.int .u64 (wL v)],.int .u64 1] w fun e w'=>e=.returned (.tuple #[.int .i64 Q,.int .u64 r,.bool false])∧Gr w w') :
  Calls Tryz.prog 116 #[.agg #[.int .i64 an,.int .i64 ad],.agg #[.int .i64 bn,.int .i64 bd]] w fun e w'=>e=.returned (.tuple #[.agg #[.int .i64 0,.int .i64 0],.int .i64 2])∧Gr w w':=by
 have HA:=Lib.hid HA
 have HB:=Lib.hid HB
 have HG:=Lib.hid HG
 have HH:=Lib.hid HH
 have HP:=Lib.hid HP
 have HD:=Lib.hid HD
 have HX:=Lib.hid (fun w=>magnitude_any an w an1.1 an1.2)
 have HY:=Lib.hid (fun w=>magnitude_any bn w bn1.1 bn1.2)
 obtain⟨an1,an2⟩:=an1
 obtain⟨bn1,bn2⟩:=bn1
 have gz:(g == 0)=false:=by simp;omega
 have hz:(h == 0)=false:=by simp;omega
 have qa:=quot_in g1 an1 an2
 have qb:=quot_in h1 bn1 bn2
 rw [hα'] at qa
 rw [hγ'] at qb
 obtain⟨qa1,qa2⟩:=qa
 obtain⟨qb1,qb2⟩:=qb
 have wα:IntKind.i64.wrap (an.tdiv g)=α:=by rw [hα];exact IntWalk.i64_in _ (by omega)
 have wγ:IntKind.i64.wrap (bn.tdiv h)=γ:=by rw [hγ];exact IntWalk.i64_in _ (by omega)
 have ma:=mg_nonneg an
 have mb:=mg_nonneg bn
 go_enter Tryz.func116,Tryz.ntmps116
 go_wp2_with (first
  | (go_at_call 119;with_reducible refine (HA.out _).mono ?_;rintro e w1 ⟨rfl,hg1⟩;obtain⟨hc1,hf1⟩:=hg1.cells;have hz1:=hg1.size;(try simp at hz1);(try have hl1_0_0:w.heap.size<w1.heap.size:=by omega);(try have hm1_0_0:w.heap.size≤w1.heap.size:=by omega);(try have hl1_0_1:w.heap.size+1<w1.heap.size:=by omega);(try have hl1_0_2:w.heap.size+2<w1.heap.size:=by omega))
  | (go_at_call 119;with_reducible refine (HB.out _).mono ?_;rintro e w2 ⟨rfl,hg2⟩;obtain⟨hc2,hf2⟩:=hg2.cells;have hz2:=hg2.size;(try simp at hz2);(try have hl2_0_0:w.heap.size<w2.heap.size:=by omega);(try have hm2_0_0:w.heap.size≤w2.heap.size:=by omega);(try have hl2_0_1:w.heap.size+1<w2.heap.size:=by omega);(try have hl2_0_2:w.heap.size+2<w2.heap.size:=by omega);(try have hl2_1_0:w1.heap.size<w2.heap.size:=by omega);(try have hm2_1_0:w1.heap.size≤w2.heap.size:=by omega);(try have hl2_1_1:w1.heap.size+1<w2.heap.size:=by omega);(try have hl2_1_2:w1.heap.size+2<w2.heap.size:=by omega)))
 refine wp_region_gr (by kernel_rfl) (by kernel_rfl) (fun hq1 hq2=>?_)
 repeat (first | go_big_quiet_skip | (go_big_quiet_want;go_big_quiet_op;first | go_big_quiet_on | (apply Exists.intro;refine⟨fun _=>?_,?_⟩;(· (first | (go_at_call 104;exact gr_call_same (HX.out _)) | (go_at_call 105;exact gr_call (HG.out _))));go_big_quiet_on)))
 refine wpQuiet_nil ?_
 clear hq1 hq2
 rintro w3 ⟨⟨_,hg3⟩,rfl⟩
 obtain⟨hc3,hf3⟩:=hg3.cells
 have hz3:=hg3.size
 (try simp at hz3);(try have hl3_0_0:w.heap.size<w3.heap.size:=by omega);(try have hm3_0_0:w.heap.size≤w3.heap.size:=by omega);(try have hl3_0_1:w.heap.size+1<w3.heap.size:=by omega);(try have hl3_0_2:w.heap.size+2<w3.heap.size:=by omega);(try have hl3_1_0:w1.heap.size<w3.heap.size:=by omega);(try have hm3_1_0:w1.heap.size≤w3.heap.size:=by omega);(try have hl3_1_1:w1.heap.size+1<w3.heap.size:=by omega);(try have hl3_1_2:w1.heap.size+2<w3.heap.size:=by omega);(try have hl3_2_0:w2.heap.size<w3.heap.size:=by omega);(try have hm3_2_0:w2.heap.size≤w3.heap.size:=by omega);(try have hl3_2_1:w2.heap.size+1<w3.heap.size:=by omega);(try have hl3_2_2:w2.heap.size+2<w3.heap.size:=by omega)
 go_wp2_with fail
 refine wp_region_gr (by kernel_rfl) (by kernel_rfl) (fun hq1 hq2=>?_)
 repeat (first | go_big_quiet_skip | (go_big_quiet_want;go_big_quiet_op;first | go_big_quiet_on | (apply Exists.intro;refine⟨fun _=>?_,?_⟩;(· (first | (go_at_call 104;exact gr_call_same (HY.out _)) | (go_at_call 105;exact gr_call (HH.out _))));go_big_quiet_on)))
 refine wpQuiet_nil ?_
 clear hq1 hq2
 rintro w4 ⟨⟨_,hg4⟩,rfl⟩
 obtain⟨hc4,hf4⟩:=hg4.cells
 have hz4:=hg4.size
 (try simp at hz4);(try have hl4_0_0:w.heap.size<w4.heap.size:=by omega);(try have hm4_0_0:w.heap.size≤w4.heap.size:=by omega);(try have hl4_0_1:w.heap.size+1<w4.heap.size:=by omega);(try have hl4_0_2:w.heap.size+2<w4.heap.size:=by omega);(try have hl4_1_0:w1.heap.size<w4.heap.size:=by omega);(try have hm4_1_0:w1.heap.size≤w4.heap.size:=by omega);(try have hl4_1_1:w1.heap.size+1<w4.heap.size:=by omega);(try have hl4_1_2:w1.heap.size+2<w4.heap.size:=by omega);(try have hl4_2_0:w2.heap.size<w4.heap.size:=by omega);(try have hm4_2_0:w2.heap.size≤w4.heap.size:=by omega);(try have hl4_2_1:w2.heap.size+1<w4.heap.size:=by omega);(try have hl4_2_2:w2.heap.size+2<w4.heap.size:=by omega);(try have hl4_3_0:w3.heap.size<w4.heap.size:=by omega);(try have hm4_3_0:w3.heap.size≤w4.heap.size:=by omega);(try have hl4_3_1:w3.heap.size+1<w4.heap.size:=by omega);(try have hl4_3_2:w3.heap.size+2<w4.heap.size:=by omega)
 go_wp2_with fail
 refine wp_region_gr (by kernel_rfl) (by kernel_rfl) (fun hq1 hq2=>?_)
 repeat (first | go_big_quiet_skip | (go_big_quiet_want;go_big_quiet_op;first | go_big_quiet_on | (apply Exists.intro;refine⟨fun _=>?_,?_⟩;(· (first | (go_at_call 133;with_reducible exact gr_call (HP.out _)) | (go_at_call 134;with_reducible exact gr_call (HD.out _))));go_big_quiet_on)))
 refine wpQuiet_nil ?_
 clear hq1 hq2
 rintro w5 ⟨⟨_,hg5⟩,rfl⟩
 obtain⟨hc5,hf5⟩:=hg5.cells
 have hz5:=hg5.size
 (try simp at hz5);(try have hl5_0_0:w.heap.size<w5.heap.size:=by omega);(try have hm5_0_0:w.heap.size≤w5.heap.size:=by omega);(try have hl5_0_1:w.heap.size+1<w5.heap.size:=by omega);(try have hl5_0_2:w.heap.size+2<w5.heap.size:=by omega);(try have hl5_1_0:w1.heap.size<w5.heap.size:=by omega);(try have hm5_1_0:w1.heap.size≤w5.heap.size:=by omega);(try have hl5_1_1:w1.heap.size+1<w5.heap.size:=by omega);(try have hl5_1_2:w1.heap.size+2<w5.heap.size:=by omega);(try have hl5_2_0:w2.heap.size<w5.heap.size:=by omega);(try have hm5_2_0:w2.heap.size≤w5.heap.size:=by omega);(try have hl5_2_1:w2.heap.size+1<w5.heap.size:=by omega);(try have hl5_2_2:w2.heap.size+2<w5.heap.size:=by omega);(try have hl5_3_0:w3.heap.size<w5.heap.size:=by omega);(try have hm5_3_0:w3.heap.size≤w5.heap.size:=by omega);(try have hl5_3_1:w3.heap.size+1<w5.heap.size:=by omega);(try have hl5_3_2:w3.heap.size+2<w5.heap.size:=by omega);(try have hl5_4_0:w4.heap.size<w5.heap.size:=by omega);(try have hm5_4_0:w4.heap.size≤w5.heap.size:=by omega);(try have hl5_4_1:w4.heap.size+1<w5.heap.size:=by omega);(try have hl5_4_2:w4.heap.size+2<w5.heap.size:=by omega)
 go_wp2_with fail
 have hgL:Gr (((w.alloc (.cells #[.int .i64 an,.int .i64 ad] 57)).alloc (.cells #[.int .i64 bn,.int .i64 bd] 57)).alloc (.cells #[.int .i64 0,.int .i64 0] 57)) w5:=(by repeat (first | with_reducible exact Gr.refl _ | with_reducible assumption | refine Gr.setCell ?_ (by first | omega | (simp;done) | (simp;omega)) _ | refine Gr.alloc ?_ _ | refine Gr.drew ?_ | refine Gr.drewN ?_ _ | refine Gr.trans ?_ (by with_reducible assumption)))
 obtain⟨hcL,hfL⟩:=hgL.cells
 have tL0:=hcL (w.heap.size+2) 0 (by simp)
 have mL0:=hfL (w.heap.size+2) 0 (by simp)
 have tL1:=hcL (w.heap.size+2) 1 (by simp)
 have mL1:=hfL (w.heap.size+2) 1 (by simp)
 simp [go_sem] at tL0 mL0 tL1 mL1
 simp [bodyPost,results,Tryz.results116,go_sem,tL0,mL0,tL1,mL1]
 exact (by repeat (first | refine Gr.setCell ?_ (by first | omega | (simp;done) | (simp;omega)) _ | refine Gr.alloc ?_ _ | refine Gr.drew ?_ | refine Gr.drewN ?_ _ | with_reducible assumption | with_reducible exact Gr.refl _ | refine Gr.trans ?_ (by with_reducible assumption)))
theorem red_vals {X Y G q D:Int} (hG:gc X Y=G) (hq:X / G=q) (hD:Y / G=D) :
  rF X Y=decide (-9223372036854775807≤q∧q≤9223372036854775807∧D≤9223372036854775807)∧rN X Y=(if rF X Y then q else 0)∧rD X Y=(if rF X Y then D else 0)∧rE X Y=(if rF X Y then 0 else 2):=by
 have e:mg X / gc X Y=mg q:=by rw [mg_quot,hG,hq]
 refine⟨?_,by unfold rN;rw [hG,hq],by unfold rD;rw [hG,hD],rfl⟩
 unfold rF
 rw [e,hG,hD,decide_eq_decide]
 unfold mg
 split <;> omega
theorem add_valid (an ad bn bd:Int) (w:World) (hA:I64 an) (hB:I64 ad) (hC:I64 bn) (hD:I64 bd) (va:vB an ad=true) (vb:vB bn bd=true) :
  Calls Tryz.prog 117 #[.agg #[.int .i64 an,.int .i64 ad],.agg #[.int .i64 bn,.int .i64 bd]] w fun e w'=>
   e=.returned (.tuple #[.agg #[.int .i64 (rN (an * bd+bn * ad) (ad * bd)),.int .i64 (rD (an * bd+bn * ad) (ad * bd))],.int .i64 (rE (an * bd+bn * ad) (ad * bd))])∧Gr w w':=by
 obtain⟨a1,a3,a4⟩:=vB_inv va
 obtain⟨b1,b3,b4⟩:=vB_inv vb
 have HA:=fun w=>valid_any an ad w hA hB
 have HB:=fun w=>valid_any bn bd w hC hD
 rw [va] at HA
 rw [vb] at HB
 obtain⟨hA1,hA2⟩:=hA
 obtain⟨hB1,hB2⟩:=hB
 obtain⟨hC1,hC2⟩:=hC
 obtain⟨hD1,hD2⟩:=hD
 obtain⟨g,h,S,eg,g1,g2,g3,eS,eh,h1,h2,eX,eG,eQ,eD,eM⟩:=add_parts a4 b4 a1 b1
 obtain⟨r1,r2,r3,r4⟩:=red_vals eG eQ eD
 have qα:0≤ad / g:=Int.ediv_nonneg (by omega) (by omega)
 have qα':ad / g≤ad:=Int.ediv_le_self _ (by omega)
 have qβ:0≤bd / g:=Int.ediv_nonneg (by omega) (by omega)
 have qβ':bd / g≤bd:=Int.ediv_le_self _ (by omega)
 have qγ:0≤bd / h:=Int.ediv_nonneg (by omega) (by omega)
 have qγ':bd / h≤bd:=Int.ediv_le_self _ (by omega)
 have F1:Fit6 (an * (bd / g)):=fit6_mul _ _ (by omega) (by omega) (by omega) (by omega)
 have F2:Fit6 (bn * (ad / g)):=fit6_mul _ _ (by omega) (by omega) (by omega) (by omega)
 have F3:Fit6 (ad / g * (bd / h)):=fit6_mul _ _ (by omega) (by omega) (by omega) (by omega)
 have FS:=F1.plus F2
 rw [eS] at FS
 have HS:=fun w=>wplus_any (an * (bd / g)) (bn * (ad / g)) w F1 F2
 rw [eS] at HS
 have m0:0≤mg S % g:=Int.emod_nonneg _ (by omega)
 have m1:mg S % g<g:=Int.emod_lt_of_pos _ (by omega)
 have HG:∀ w,Calls Tryz.prog 105 #[.int .u64 ad,.int .u64 bd] w fun e w'=>e=.returned (.int .u64 g)∧Gr w w':=fun w=>by
  have:=gcd_any ad bd w (by omega) (by omega) (by omega) (by omega)
  rw [eg] at this
  exact this.mono fun _ _ ⟨x,y⟩=>⟨x,Gr.of_drewN y⟩
 have HG2:∀ w,Calls Tryz.prog 105 #[.int .u64 (mg S % g),.int .u64 g] w fun e w'=>e=.returned (.int .u64 h)∧Gr w w':=fun w=>by
  have:=gcd_any (mg S % g) g w m0 (by omega) (by omega) (by omega)
  rw [eh] at this
  exact this.mono fun _ _ ⟨x,y⟩=>⟨x,Gr.of_drewN y⟩
 have d0:0≤ad / g * (bd / h):=Int.mul_nonneg qα qγ
 rw [r2,r3,r4,r1]
 cases hP:(decide (-9223372036854775808≤S / h∧S / h≤9223372036854775807))
 ·have hn:¬ (-9223372036854775807≤S / h∧S / h≤9223372036854775807∧ad / g * (bd / h)≤9223372036854775807):=by
   have:=of_decide_eq_false hP
   omega
  have HD:=fun w=>divide_any S h w FS h1 (by omega) false hP
  simp only [if_false,Bool.false_eq_true] at HD
  rw [decide_eq_false hn]
  simp only [if_false,Bool.false_eq_true]
  exact add_core_no an ad bn bd g (ad / g) (bd / g) (bd / h) S (mg S % g) h 0 0 0 0 0 0 w (by omega) (by omega) (by omega) (by omega) (by omega) (by omega) (by omega) (by omega) rfl rfl rfl HA HB HG
   (fun w=>product_any an (bd / g) w (by omega) (by omega) (by omega) (by omega)) (fun w=>product_any bn (ad / g) w (by omega) (by omega) (by omega) (by omega)) HS (fun w=>modulo_any S g w FS (by omega) (by omega)) HG2 HD
 ·have hq:=of_decide_eq_true hP
  have HD:=fun w=>divide_any S h w FS h1 (by omega) true hP
  simp only [if_true] at HD
  have HF:=fun w=>fraction_any (S / h) (ad / g * (bd / h)) w hq d0 F3.fit
  have:=add_core_yes an ad bn bd g (ad / g) (bd / g) (bd / h) S (mg S % g) h (S / h) (S % h) (ad / g * (bd / h)) _ _ _ w (by omega) (by omega) (by omega) (by omega) (by omega) (by omega) (by omega) (by omega) rfl rfl rfl HA HB HG
   (fun w=>product_any an (bd / g) w (by omega) (by omega) (by omega) (by omega)) (fun w=>product_any bn (ad / g) w (by omega) (by omega) (by omega) (by omega)) HS (fun w=>modulo_any S g w FS (by omega) (by omega)) HG2 HD
   (fun w=>product_any (ad / g) (bd / h) w (by omega) (by omega) (by omega) (by omega)) HF
  have hb:(-9223372036854775807≤S / h∧S / h≤9223372036854775807∧ad / g * (bd / h)≤9223372036854775807)↔(-9223372036854775807≤S / h∧ad / g * (bd / h)≤9223372036854775807):=by omega
  simp only [decide_eq_true_eq,hb]
  exact this
theorem mul_valid (an ad bn bd:Int) (w:World) (hA:I64 an) (hB:I64 ad) (hC:I64 bn) (hD:I64 bd) (va:vB an ad=true) (vb:vB bn bd=true) :
  Calls Tryz.prog 116 #[.agg #[.int .i64 an,.int .i64 ad],.agg #[.int .i64 bn,.int .i64 bd]] w fun e w'=>
   e=.returned (.tuple #[.agg #[.int .i64 (rN (an * bn) (ad * bd)),.int .i64 (rD (an * bn) (ad * bd))],.int .i64 (rE (an * bn) (ad * bd))])∧Gr w w':=by
 obtain⟨a1,a3,a4⟩:=vB_inv va
 obtain⟨b1,b3,b4⟩:=vB_inv vb
 have HA:=fun w=>valid_any an ad w hA hB
 have HB:=fun w=>valid_any bn bd w hC hD
 rw [va] at HA
 rw [vb] at HB
 have hA':=hA
 have hC':=hC
 obtain⟨hA1,hA2⟩:=hA
 obtain⟨hB1,hB2⟩:=hB
 obtain⟨hC1,hC2⟩:=hC
 obtain⟨hD1,hD2⟩:=hD
 obtain⟨g,h,eg,eh,g1,g2,h1,h2,dg,dh,dg2,dh2,eG,eQ,eD⟩:=mul_parts a4 b4 a1 b1
 obtain⟨r1,r2,r3,r4⟩:=red_vals eG eQ eD
 have qα:=quot_in (n:=an) g1 hA1 hA2
 have qγ:=quot_in (n:=bn) h1 hC1 hC2
 have qβ:0≤bd / g:=Int.ediv_nonneg (by omega) (by omega)
 have qβ':bd / g≤bd:=Int.ediv_le_self _ (by omega)
 have qδ:0≤ad / h:=Int.ediv_nonneg (by omega) (by omega)
 have qδ':ad / h≤ad:=Int.ediv_le_self _ (by omega)
 have F1:Fit6 (an / g * (bn / h)):=fit6_mul _ _ (by omega) (by omega) (by omega) (by omega)
 have F3:Fit6 (ad / h * (bd / g)):=fit6_mul _ _ (by omega) (by omega) (by omega) (by omega)
 have HG:∀ w,Calls Tryz.prog 105 #[.int .u64 (mg an),.int .u64 bd] w fun e w'=>e=.returned (.int .u64 g)∧Gr w w':=fun w=>by
  have:=gcd_any (mg an) bd w (mg_nonneg an) (mg_lt an hA1 hA2) (by omega) (by omega)
  rw [eg] at this
  exact this.mono fun _ _ ⟨x,y⟩=>⟨x,Gr.of_drewN y⟩
 have HH:∀ w,Calls Tryz.prog 105 #[.int .u64 (mg bn),.int .u64 ad] w fun e w'=>e=.returned (.int .u64 h)∧Gr w w':=fun w=>by
  have:=gcd_any (mg bn) ad w (mg_nonneg bn) (mg_lt bn hC1 hC2) (by omega) (by omega)
  rw [eh] at this
  exact this.mono fun _ _ ⟨x,y⟩=>⟨x,Gr.of_drewN y⟩
 have d0:0≤ad / h * (bd / g):=Int.mul_nonneg qδ qβ
 have e1:an / g * (bn / h) / 1=an / g * (bn / h):=Int.ediv_one _
 rw [r2,r3,r4,r1]
 cases hP:(decide (-9223372036854775808≤an / g * (bn / h)∧an / g * (bn / h)≤9223372036854775807))
 ·have hn:¬ (-9223372036854775807≤an / g * (bn / h)∧an / g * (bn / h)≤9223372036854775807∧ad / h * (bd / g)≤9223372036854775807):=by
   have:=of_decide_eq_false hP
   omega
  have HD:=fun w=>divide_any (an / g * (bn / h)) 1 w F1.fit (by omega) (by omega) false (by rw [e1];exact hP)
  simp only [if_false,Bool.false_eq_true] at HD
  rw [decide_eq_false hn]
  simp only [if_false,Bool.false_eq_true]
  exact mul_core_no an ad bn bd g h (an / g) (bd / g) (bn / h) (ad / h) (an / g * (bn / h)) 0 0 0 0 0 0 w (by omega) (by omega) (by omega) (by omega) hA' hC' (by omega) (by omega) (by omega) (by omega) (Int.tdiv_eq_ediv_of_dvd dg) rfl (Int.tdiv_eq_ediv_of_dvd dh) rfl rfl rfl HA HB HG HH
   (fun w=>product_any (an / g) (bn / h) w (by omega) (by omega) (by omega) (by omega)) HD
 ·have hq:=of_decide_eq_true hP
  have HD:=fun w=>divide_any (an / g * (bn / h)) 1 w F1.fit (by omega) (by omega) true (by rw [e1];exact hP)
  rw [e1] at HD
  simp only [if_true] at HD
  have HF:=fun w=>fraction_any (an / g * (bn / h)) (ad / h * (bd / g)) w hq d0 F3.fit
  have:=mul_core_yes an ad bn bd g h (an / g) (bd / g) (bn / h) (ad / h) (an / g * (bn / h)) (an / g * (bn / h)) _ (ad / h * (bd / g)) _ _ _ w (by omega) (by omega) (by omega) (by omega) hA' hC' (by omega) (by omega) (by omega) (by omega) (Int.tdiv_eq_ediv_of_dvd dg) rfl (Int.tdiv_eq_ediv_of_dvd dh) rfl rfl rfl HA HB HG HH
   (fun w=>product_any (an / g) (bn / h) w (by omega) (by omega) (by omega) (by omega)) HD (fun w=>product_any (ad / h) (bd / g) w (by omega) (by omega) (by omega) (by omega)) HF
  have hb:(-9223372036854775807≤an / g * (bn / h)∧an / g * (bn / h)≤9223372036854775807∧ad / h * (bd / g)≤9223372036854775807)↔(-9223372036854775807≤an / g * (bn / h)∧ad / h * (bd / g)≤9223372036854775807):=by omega
  simp only [decide_eq_true_eq,hb]
  exact this
end Go.Proofs.YtnginfangeikpaaGreatDoor
