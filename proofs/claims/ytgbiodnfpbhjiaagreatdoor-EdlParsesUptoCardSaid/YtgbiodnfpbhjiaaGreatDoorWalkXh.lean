/-
  Contract of Parse of the reference of timecodes, at any text: its parts don't hang on the world.
  Conditions: none.
-/
import Derived.Test.YtgbiodnfpbhjiaaGreatDoorWalkXg
namespace Go.Proofs.YtgbiodnfpbhjiaaGreatDoor
open Go.RowKit Go.Lib
set_option linter.unusedSimpArgs false
set_option linter.unusedVariables false
set_option maxRecDepth 100000 in
set_option maxHeartbeats 4000000 in
theorem rparse_good58_core (S:ByteArray) (b V x0 x1 x2 x3:Int) (w:World) (hb:C19.isB b=true) (hS:S.size=11)
  (d0:dg2 (S[0]'(by omega)) (S[1]'(by omega))) (d1:dg2 (S[3]'(by omega)) (S[4]'(by omega))) (d2:dg2 (S[6]'(by omega)) (S[7]'(by omega))) (d3:dg2 (S[9]'(by omega)) (S[10]'(by omega))) (m2:((S[2]'(by omega)).toNat:Int)=58) (m5:((S[5]'(by omega)).toNat:Int)=58) (m8:((S[8]'(by omega)).toNat:Int)=58)
  (HM:∀ w,Calls Tryz.prog 182 #[.string S] w fun e w'=>e=.returned (.agg #[.int .i64 x0,.int .i64 x1,.int .i64 x2,.int .i64 x3])∧Gr w w')
  (H:∀ w,Calls Tryz.prog 136 #[.agg #[.int .i64 x0,.int .i64 x1,.int .i64 x2,.int .i64 x3,.int .i64 b,.bool false]] w fun e w'=>e=.returned (.tuple #[.int .i64 V,.int .i64 0])∧Gr w w') :
  Calls Tryz.prog 143 #[.string S,.int .i64 b] w fun e w'=>e=.returned (.tuple #[.agg #[.int .i64 x0,.int .i64 x1,.int .i64 x2,.int .i64 x3,.int .i64 b,.bool false],.int .i64 0])∧Gr w w':=by
 replace H:=Lib.hid H
 replace HM:=Lib.hid HM
 have HB:=Lib.hid (fun w=>hb ▸ C19.known_any b w)
 obtain⟨l0,u0,l1,u1⟩:=d0
 have il0:(48:Int)≤((S[0]'(by omega)).toNat:Int):=by omega
 have iu0:((S[0]'(by omega)).toNat:Int)≤57:=by omega
 clear l0 u0
 have il1:(48:Int)≤((S[1]'(by omega)).toNat:Int):=by omega
 have iu1:((S[1]'(by omega)).toNat:Int)≤57:=by omega
 clear l1 u1
 obtain⟨l3,u3,l4,u4⟩:=d1
 have il3:(48:Int)≤((S[3]'(by omega)).toNat:Int):=by omega
 have iu3:((S[3]'(by omega)).toNat:Int)≤57:=by omega
 clear l3 u3
 have il4:(48:Int)≤((S[4]'(by omega)).toNat:Int):=by omega
 have iu4:((S[4]'(by omega)).toNat:Int)≤57:=by omega
 clear l4 u4
 obtain⟨l6,u6,l7,u7⟩:=d2
 have il6:(48:Int)≤((S[6]'(by omega)).toNat:Int):=by omega
 have iu6:((S[6]'(by omega)).toNat:Int)≤57:=by omega
 clear l6 u6
 have il7:(48:Int)≤((S[7]'(by omega)).toNat:Int):=by omega
 have iu7:((S[7]'(by omega)).toNat:Int)≤57:=by omega
 clear l7 u7
 obtain⟨l9,u9,l10,u10⟩:=d3
 have il9:(48:Int)≤((S[9]'(by omega)).toNat:Int):=by omega
 have iu9:((S[9]'(by omega)).toNat:Int)≤57:=by omega
 clear l9 u9
 have il10:(48:Int)≤((S[10]'(by omega)).toNat:Int):=by omega
 have iu10:((S[10]'(by omega)).toNat:Int)≤57:=by omega
 clear l10 u10
 have q2:(((S[2]'(by omega)).toNat:Int) != 58)=false:=by simp;omega
 have q5:(((S[5]'(by omega)).toNat:Int) != 58)=false:=by simp;omega
 have q8:(((S[8]'(by omega)).toNat:Int) != 58)=false:=by simp;omega
 have r8:(((S[8]'(by omega)).toNat:Int) == 59)=false:=by simp;omega
 clear hb
 go_enter Tryz.func143,Tryz.ntmps143
 go_wp2_with (go_at_call 82;refine (HB.out _).mono ?_;rintro e w' ⟨rfl,rfl⟩)
 refine wp_loop_rounds 12 ?_
 rw [rounds_succ]
 go_wp2
 rw [rounds_succ]
 go_wp2
 rw [rounds_succ]
 go_wp2
 rw [rounds_succ]
 go_wp2
 rw [rounds_succ]
 go_wp2
 rw [rounds_succ]
 go_wp2
 rw [rounds_succ]
 go_wp2
 rw [rounds_succ]
 go_wp2
 rw [rounds_succ]
 go_wp2
 rw [rounds_succ]
 go_wp2
 rw [rounds_succ]
 go_wp2
 rw [rounds_succ]
 go_wp2_with (go_at_call 182;refine (HM.out _).mono ?_;rintro e w1 ⟨rfl,hg1⟩;obtain⟨hc1,hf1⟩:=hg1.cells;have hz1:=hg1.size;(try simp at hz1);(try have hl1_0_0:w.heap.size<w1.heap.size:=by omega);(try have hm1_0_0:w.heap.size≤w1.heap.size:=by omega);(try have hl1_0_1:w.heap.size+1<w1.heap.size:=by omega);(try have hl1_0_2:w.heap.size+2<w1.heap.size:=by omega))
 refine wp_region_made1 13 (.cells #[.int .i64 0,.int .i64 0,.int .i64 0,.int .i64 0,.int .i64 0,.bool false] 153) _ (by kernel_rfl) (by kernel_rfl) rfl rfl (fun a w=>by simp [execOp,go_sem]) (fun B hB hq1 hq2=>?_)
 simp only [List.take_succ_cons,List.take_zero,List.drop_succ_cons,List.drop_zero]
 repeat (first | go_big_quiet_skip | (go_big_quiet_want;go_big_quiet_op;first | go_big_quiet_on | (apply Exists.intro;refine⟨fun _=>?_,?_⟩;(· (fail));go_big_quiet_on)))
 refine wpQuiet_nil ?_
 clear hq1 hq2 hB
 rintro P w2 hg2 hs2_P hb2_P
 obtain⟨hc2,hf2⟩:=hg2.cells
 have hz2:=hg2.size
 (try simp at hz2);(try have hl2_0_0:w.heap.size<w2.heap.size:=by omega);(try have hm2_0_0:w.heap.size≤w2.heap.size:=by omega);(try have hl2_0_1:w.heap.size+1<w2.heap.size:=by omega);(try have hl2_0_2:w.heap.size+2<w2.heap.size:=by omega);(try have hl2_1_0:w1.heap.size<w2.heap.size:=by omega);(try have hm2_1_0:w1.heap.size≤w2.heap.size:=by omega);(try have hl2_1_1:w1.heap.size+1<w2.heap.size:=by omega);(try have hl2_1_2:w1.heap.size+2<w2.heap.size:=by omega)
 (try simp at hs2_P)
 have hx2_P:P<w2.heap.size:=lt_of_block hb2_P
 have hy2_P_0:=cells_of_block hb2_P 0
 have hv2_P_0:=mark_of_block hb2_P 0
 have hy2_P_1:=cells_of_block hb2_P 1
 have hv2_P_1:=mark_of_block hb2_P 1
 have hy2_P_2:=cells_of_block hb2_P 2
 have hv2_P_2:=mark_of_block hb2_P 2
 have hy2_P_3:=cells_of_block hb2_P 3
 have hv2_P_3:=mark_of_block hb2_P 3
 have hy2_P_4:=cells_of_block hb2_P 4
 have hv2_P_4:=mark_of_block hb2_P 4
 have hy2_P_5:=cells_of_block hb2_P 5
 have hv2_P_5:=mark_of_block hb2_P 5
 simp at hy2_P_0 hy2_P_1 hy2_P_2 hy2_P_3 hy2_P_4 hy2_P_5
 go_wp2_with (go_at_call 136;refine (H.out _).mono ?_;rintro e w3 ⟨rfl,hg3⟩;obtain⟨hc3,hf3⟩:=hg3.cells;have hz3:=hg3.size;(try simp at hz3);(try have hl3_0_0:w.heap.size<w3.heap.size:=by omega);(try have hm3_0_0:w.heap.size≤w3.heap.size:=by omega);(try have hl3_0_1:w.heap.size+1<w3.heap.size:=by omega);(try have hl3_0_2:w.heap.size+2<w3.heap.size:=by omega);(try have hl3_1_0:w1.heap.size<w3.heap.size:=by omega);(try have hm3_1_0:w1.heap.size≤w3.heap.size:=by omega);(try have hl3_1_1:w1.heap.size+1<w3.heap.size:=by omega);(try have hl3_1_2:w1.heap.size+2<w3.heap.size:=by omega);(try have hl3_2_0:w2.heap.size<w3.heap.size:=by omega);(try have hm3_2_0:w2.heap.size≤w3.heap.size:=by omega);(try have hl3_2_1:w2.heap.size+1<w3.heap.size:=by omega);(try have hl3_2_2:w2.heap.size+2<w3.heap.size:=by omega))
 have hgE:Gr (w.alloc (.cells #[.int .i64 0,.int .i64 0,.int .i64 0,.int .i64 0,.int .i64 0,.bool false] 153)) w3:=(by repeat (first | with_reducible exact Gr.refl _ | with_reducible assumption | refine Gr.setCell ?_ (by first | omega | (simp;done) | (simp;omega)) _ | refine Gr.alloc ?_ _ | refine Gr.drew ?_ | refine Gr.drewN ?_ _ | refine Gr.trans ?_ (by with_reducible assumption)))
 have hbE:=(Blk.new w [.int .i64 0,.int .i64 0,.int .i64 0,.int .i64 0,.int .i64 0,.bool false] 153).gr hgE
 have f0:=hbE.lt
 obtain⟨c1,f1⟩:=hbE.cel.2 0 _ rfl
 obtain⟨c2,f2⟩:=hbE.cel.2 1 _ rfl
 obtain⟨c3,f3⟩:=hbE.cel.2 2 _ rfl
 obtain⟨c4,f4⟩:=hbE.cel.2 3 _ rfl
 obtain⟨c5,f5⟩:=hbE.cel.2 4 _ rfl
 obtain⟨c6,f6⟩:=hbE.cel.2 5 _ rfl
 simp [bodyPost,results,Tryz.results143,go_sem,c1,c2,c3,c4,c5,c6,f1,f2,f3,f4,f5,f6]
 exact (by repeat (first | refine Gr.setCell ?_ (by first | omega | (simp;done) | (simp;omega)) _ | refine Gr.alloc ?_ _ | refine Gr.drew ?_ | refine Gr.drewN ?_ _ | with_reducible assumption | with_reducible exact Gr.refl _ | refine Gr.trans ?_ (by with_reducible assumption)))
theorem rparse_good58 (S:ByteArray) (b V:Int) (w:World) (hb:C19.isB b=true) (hS:S.size=11)
  (d0:dg2 (S[0]'(by omega)) (S[1]'(by omega))) (d1:dg2 (S[3]'(by omega)) (S[4]'(by omega))) (d2:dg2 (S[6]'(by omega)) (S[7]'(by omega))) (d3:dg2 (S[9]'(by omega)) (S[10]'(by omega))) (m2:((S[2]'(by omega)).toNat:Int)=58) (m5:((S[5]'(by omega)).toNat:Int)=58) (m8:((S[8]'(by omega)).toNat:Int)=58)
  (H:∀ w,Calls Tryz.prog 136 #[.agg #[.int .i64 (n2 (S[0]'(by omega)) (S[1]'(by omega))),.int .i64 (n2 (S[3]'(by omega)) (S[4]'(by omega))),.int .i64 (n2 (S[6]'(by omega)) (S[7]'(by omega))),.int .i64 (n2 (S[9]'(by omega)) (S[10]'(by omega))),.int .i64 b,.bool false]] w fun e w'=>e=.returned (.tuple #[.int .i64 V,.int .i64 0])∧Gr w w') :
  Calls Tryz.prog 143 #[.string S,.int .i64 b] w fun e w'=>e=.returned (.tuple #[.agg #[.int .i64 (n2 (S[0]'(by omega)) (S[1]'(by omega))),.int .i64 (n2 (S[3]'(by omega)) (S[4]'(by omega))),.int .i64 (n2 (S[6]'(by omega)) (S[7]'(by omega))),.int .i64 (n2 (S[9]'(by omega)) (S[10]'(by omega))),.int .i64 b,.bool false],.int .i64 0])∧Gr w w':=
 rparse_good58_core S b V _ _ _ _ w hb hS d0 d1 d2 d3 m2 m5 m8 (fun w=>rnumbers_any S w hS d0 d1 d2 d3) H
set_option maxRecDepth 100000 in
set_option maxHeartbeats 4000000 in
theorem rparse_err58_core (S:ByteArray) (b V E x0 x1 x2 x3:Int) (w:World) (hE:E≠0) (hb:C19.isB b=true) (hS:S.size=11)
  (d0:dg2 (S[0]'(by omega)) (S[1]'(by omega))) (d1:dg2 (S[3]'(by omega)) (S[4]'(by omega))) (d2:dg2 (S[6]'(by omega)) (S[7]'(by omega))) (d3:dg2 (S[9]'(by omega)) (S[10]'(by omega))) (m2:((S[2]'(by omega)).toNat:Int)=58) (m5:((S[5]'(by omega)).toNat:Int)=58) (m8:((S[8]'(by omega)).toNat:Int)=58)
  (HM:∀ w,Calls Tryz.prog 182 #[.string S] w fun e w'=>e=.returned (.agg #[.int .i64 x0,.int .i64 x1,.int .i64 x2,.int .i64 x3])∧Gr w w')
  (H:∀ w,Calls Tryz.prog 136 #[.agg #[.int .i64 x0,.int .i64 x1,.int .i64 x2,.int .i64 x3,.int .i64 b,.bool false]] w fun e w'=>e=.returned (.tuple #[.int .i64 V,.int .i64 E])∧Gr w w') :
  Calls Tryz.prog 143 #[.string S,.int .i64 b] w fun e w'=>e=.returned (.tuple #[.agg #[.int .i64 0,.int .i64 0,.int .i64 0,.int .i64 0,.int .i64 0,.bool false],.int .i64 E])∧Gr w w':=by
 replace H:=Lib.hid H
 replace HM:=Lib.hid HM
 have HB:=Lib.hid (fun w=>hb ▸ C19.known_any b w)
 have qE:(E != 0)=true:=by simp [hE]
 replace hE:=Lib.hid hE
 obtain⟨l0,u0,l1,u1⟩:=d0
 have il0:(48:Int)≤((S[0]'(by omega)).toNat:Int):=by omega
 have iu0:((S[0]'(by omega)).toNat:Int)≤57:=by omega
 clear l0 u0
 have il1:(48:Int)≤((S[1]'(by omega)).toNat:Int):=by omega
 have iu1:((S[1]'(by omega)).toNat:Int)≤57:=by omega
 clear l1 u1
 obtain⟨l3,u3,l4,u4⟩:=d1
 have il3:(48:Int)≤((S[3]'(by omega)).toNat:Int):=by omega
 have iu3:((S[3]'(by omega)).toNat:Int)≤57:=by omega
 clear l3 u3
 have il4:(48:Int)≤((S[4]'(by omega)).toNat:Int):=by omega
 have iu4:((S[4]'(by omega)).toNat:Int)≤57:=by omega
 clear l4 u4
 obtain⟨l6,u6,l7,u7⟩:=d2
 have il6:(48:Int)≤((S[6]'(by omega)).toNat:Int):=by omega
 have iu6:((S[6]'(by omega)).toNat:Int)≤57:=by omega
 clear l6 u6
 have il7:(48:Int)≤((S[7]'(by omega)).toNat:Int):=by omega
 have iu7:((S[7]'(by omega)).toNat:Int)≤57:=by omega
 clear l7 u7
 obtain⟨l9,u9,l10,u10⟩:=d3
 have il9:(48:Int)≤((S[9]'(by omega)).toNat:Int):=by omega
 have iu9:((S[9]'(by omega)).toNat:Int)≤57:=by omega
 clear l9 u9
 have il10:(48:Int)≤((S[10]'(by omega)).toNat:Int):=by omega
 have iu10:((S[10]'(by omega)).toNat:Int)≤57:=by omega
 clear l10 u10
 have q2:(((S[2]'(by omega)).toNat:Int) != 58)=false:=by simp;omega
 have q5:(((S[5]'(by omega)).toNat:Int) != 58)=false:=by simp;omega
 have q8:(((S[8]'(by omega)).toNat:Int) != 58)=false:=by simp;omega
 have r8:(((S[8]'(by omega)).toNat:Int) == 59)=false:=by simp;omega
 clear hb
 go_enter Tryz.func143,Tryz.ntmps143
 go_wp2_with (go_at_call 82;refine (HB.out _).mono ?_;rintro e w' ⟨rfl,rfl⟩)
 refine wp_loop_rounds 12 ?_
 rw [rounds_succ]
 go_wp2
 rw [rounds_succ]
 go_wp2
 rw [rounds_succ]
 go_wp2
 rw [rounds_succ]
 go_wp2
 rw [rounds_succ]
 go_wp2
 rw [rounds_succ]
 go_wp2
 rw [rounds_succ]
 go_wp2
 rw [rounds_succ]
 go_wp2
 rw [rounds_succ]
 go_wp2
 rw [rounds_succ]
 go_wp2
 rw [rounds_succ]
 go_wp2
 rw [rounds_succ]
 go_wp2_with (go_at_call 182;refine (HM.out _).mono ?_;rintro e w1 ⟨rfl,hg1⟩;obtain⟨hc1,hf1⟩:=hg1.cells;have hz1:=hg1.size;(try simp at hz1);(try have hl1_0_0:w.heap.size<w1.heap.size:=by omega);(try have hm1_0_0:w.heap.size≤w1.heap.size:=by omega);(try have hl1_0_1:w.heap.size+1<w1.heap.size:=by omega);(try have hl1_0_2:w.heap.size+2<w1.heap.size:=by omega))
 refine wp_region_made1 13 (.cells #[.int .i64 0,.int .i64 0,.int .i64 0,.int .i64 0,.int .i64 0,.bool false] 153) _ (by kernel_rfl) (by kernel_rfl) rfl rfl (fun a w=>by simp [execOp,go_sem]) (fun B hB hq1 hq2=>?_)
 simp only [List.take_succ_cons,List.take_zero,List.drop_succ_cons,List.drop_zero]
 repeat (first | go_big_quiet_skip | (go_big_quiet_want;go_big_quiet_op;first | go_big_quiet_on | (apply Exists.intro;refine⟨fun _=>?_,?_⟩;(· (fail));go_big_quiet_on)))
 refine wpQuiet_nil ?_
 clear hq1 hq2 hB
 rintro P w2 hg2 hs2_P hb2_P
 obtain⟨hc2,hf2⟩:=hg2.cells
 have hz2:=hg2.size
 (try simp at hz2);(try have hl2_0_0:w.heap.size<w2.heap.size:=by omega);(try have hm2_0_0:w.heap.size≤w2.heap.size:=by omega);(try have hl2_0_1:w.heap.size+1<w2.heap.size:=by omega);(try have hl2_0_2:w.heap.size+2<w2.heap.size:=by omega);(try have hl2_1_0:w1.heap.size<w2.heap.size:=by omega);(try have hm2_1_0:w1.heap.size≤w2.heap.size:=by omega);(try have hl2_1_1:w1.heap.size+1<w2.heap.size:=by omega);(try have hl2_1_2:w1.heap.size+2<w2.heap.size:=by omega)
 (try simp at hs2_P)
 have hx2_P:P<w2.heap.size:=lt_of_block hb2_P
 have hy2_P_0:=cells_of_block hb2_P 0
 have hv2_P_0:=mark_of_block hb2_P 0
 have hy2_P_1:=cells_of_block hb2_P 1
 have hv2_P_1:=mark_of_block hb2_P 1
 have hy2_P_2:=cells_of_block hb2_P 2
 have hv2_P_2:=mark_of_block hb2_P 2
 have hy2_P_3:=cells_of_block hb2_P 3
 have hv2_P_3:=mark_of_block hb2_P 3
 have hy2_P_4:=cells_of_block hb2_P 4
 have hv2_P_4:=mark_of_block hb2_P 4
 have hy2_P_5:=cells_of_block hb2_P 5
 have hv2_P_5:=mark_of_block hb2_P 5
 simp at hy2_P_0 hy2_P_1 hy2_P_2 hy2_P_3 hy2_P_4 hy2_P_5
 go_wp2_with (go_at_call 136;refine (H.out _).mono ?_;rintro e w3 ⟨rfl,hg3⟩;obtain⟨hc3,hf3⟩:=hg3.cells;have hz3:=hg3.size;(try simp at hz3);(try have hl3_0_0:w.heap.size<w3.heap.size:=by omega);(try have hm3_0_0:w.heap.size≤w3.heap.size:=by omega);(try have hl3_0_1:w.heap.size+1<w3.heap.size:=by omega);(try have hl3_0_2:w.heap.size+2<w3.heap.size:=by omega);(try have hl3_1_0:w1.heap.size<w3.heap.size:=by omega);(try have hm3_1_0:w1.heap.size≤w3.heap.size:=by omega);(try have hl3_1_1:w1.heap.size+1<w3.heap.size:=by omega);(try have hl3_1_2:w1.heap.size+2<w3.heap.size:=by omega);(try have hl3_2_0:w2.heap.size<w3.heap.size:=by omega);(try have hm3_2_0:w2.heap.size≤w3.heap.size:=by omega);(try have hl3_2_1:w2.heap.size+1<w3.heap.size:=by omega);(try have hl3_2_2:w2.heap.size+2<w3.heap.size:=by omega))
 have hgE:Gr (w.alloc (.cells #[.int .i64 0,.int .i64 0,.int .i64 0,.int .i64 0,.int .i64 0,.bool false] 153)) w3:=(by repeat (first | with_reducible exact Gr.refl _ | with_reducible assumption | refine Gr.setCell ?_ (by first | omega | (simp;done) | (simp;omega)) _ | refine Gr.alloc ?_ _ | refine Gr.drew ?_ | refine Gr.drewN ?_ _ | refine Gr.trans ?_ (by with_reducible assumption)))
 have hbE:=(Blk.new w [.int .i64 0,.int .i64 0,.int .i64 0,.int .i64 0,.int .i64 0,.bool false] 153).gr hgE
 have f0:=hbE.lt
 obtain⟨c1,f1⟩:=hbE.cel.2 0 _ rfl
 obtain⟨c2,f2⟩:=hbE.cel.2 1 _ rfl
 obtain⟨c3,f3⟩:=hbE.cel.2 2 _ rfl
 obtain⟨c4,f4⟩:=hbE.cel.2 3 _ rfl
 obtain⟨c5,f5⟩:=hbE.cel.2 4 _ rfl
 obtain⟨c6,f6⟩:=hbE.cel.2 5 _ rfl
 simp [bodyPost,results,Tryz.results143,go_sem,c1,c2,c3,c4,c5,c6,f1,f2,f3,f4,f5,f6]
 exact (by repeat (first | refine Gr.setCell ?_ (by first | omega | (simp;done) | (simp;omega)) _ | refine Gr.alloc ?_ _ | refine Gr.drew ?_ | refine Gr.drewN ?_ _ | with_reducible assumption | with_reducible exact Gr.refl _ | refine Gr.trans ?_ (by with_reducible assumption)))
theorem rparse_err58 (S:ByteArray) (b V E:Int) (w:World) (hE:E=1∨E=2) (hb:C19.isB b=true) (hS:S.size=11)
  (d0:dg2 (S[0]'(by omega)) (S[1]'(by omega))) (d1:dg2 (S[3]'(by omega)) (S[4]'(by omega))) (d2:dg2 (S[6]'(by omega)) (S[7]'(by omega))) (d3:dg2 (S[9]'(by omega)) (S[10]'(by omega))) (m2:((S[2]'(by omega)).toNat:Int)=58) (m5:((S[5]'(by omega)).toNat:Int)=58) (m8:((S[8]'(by omega)).toNat:Int)=58)
  (H:∀ w,Calls Tryz.prog 136 #[.agg #[.int .i64 (n2 (S[0]'(by omega)) (S[1]'(by omega))),.int .i64 (n2 (S[3]'(by omega)) (S[4]'(by omega))),.int .i64 (n2 (S[6]'(by omega)) (S[7]'(by omega))),.int .i64 (n2 (S[9]'(by omega)) (S[10]'(by omega))),.int .i64 b,.bool false]] w fun e w'=>e=.returned (.tuple #[.int .i64 V,.int .i64 E])∧Gr w w') :
  Calls Tryz.prog 143 #[.string S,.int .i64 b] w fun e w'=>e=.returned (.tuple #[.agg #[.int .i64 0,.int .i64 0,.int .i64 0,.int .i64 0,.int .i64 0,.bool false],.int .i64 E])∧Gr w w':=
 rparse_err58_core S b V E _ _ _ _ w (by omega) hb hS d0 d1 d2 d3 m2 m5 m8 (fun w=>rnumbers_any S w hS d0 d1 d2 d3) H
set_option maxRecDepth 100000 in
set_option maxHeartbeats 4000000 in
theorem rparse_good59_core (S:ByteArray) (b V x0 x1 x2 x3:Int) (w:World) (hb:C19.isB b=true) (hS:S.size=11)
  (d0:dg2 (S[0]'(by omega)) (S[1]'(by omega))) (d1:dg2 (S[3]'(by omega)) (S[4]'(by omega))) (d2:dg2 (S[6]'(by omega)) (S[7]'(by omega))) (d3:dg2 (S[9]'(by omega)) (S[10]'(by omega))) (m2:((S[2]'(by omega)).toNat:Int)=58) (m5:((S[5]'(by omega)).toNat:Int)=58) (m8:((S[8]'(by omega)).toNat:Int)=59)
  (HM:∀ w,Calls Tryz.prog 182 #[.string S] w fun e w'=>e=.returned (.agg #[.int .i64 x0,.int .i64 x1,.int .i64 x2,.int .i64 x3])∧Gr w w')
  (H:∀ w,Calls Tryz.prog 136 #[.agg #[.int .i64 x0,.int .i64 x1,.int .i64 x2,.int .i64 x3,.int .i64 b,.bool true]] w fun e w'=>e=.returned (.tuple #[.int .i64 V,.int .i64 0])∧Gr w w') :
  Calls Tryz.prog 143 #[.string S,.int .i64 b] w fun e w'=>e=.returned (.tuple #[.agg #[.int .i64 x0,.int .i64 x1,.int .i64 x2,.int .i64 x3,.int .i64 b,.bool true],.int .i64 0])∧Gr w w':=by
 replace H:=Lib.hid H
 replace HM:=Lib.hid HM
 have HB:=Lib.hid (fun w=>hb ▸ C19.known_any b w)
 obtain⟨l0,u0,l1,u1⟩:=d0
 have il0:(48:Int)≤((S[0]'(by omega)).toNat:Int):=by omega
 have iu0:((S[0]'(by omega)).toNat:Int)≤57:=by omega
 clear l0 u0
 have il1:(48:Int)≤((S[1]'(by omega)).toNat:Int):=by omega
 have iu1:((S[1]'(by omega)).toNat:Int)≤57:=by omega
 clear l1 u1
 obtain⟨l3,u3,l4,u4⟩:=d1
 have il3:(48:Int)≤((S[3]'(by omega)).toNat:Int):=by omega
 have iu3:((S[3]'(by omega)).toNat:Int)≤57:=by omega
 clear l3 u3
 have il4:(48:Int)≤((S[4]'(by omega)).toNat:Int):=by omega
 have iu4:((S[4]'(by omega)).toNat:Int)≤57:=by omega
 clear l4 u4
 obtain⟨l6,u6,l7,u7⟩:=d2
 have il6:(48:Int)≤((S[6]'(by omega)).toNat:Int):=by omega
 have iu6:((S[6]'(by omega)).toNat:Int)≤57:=by omega
 clear l6 u6
 have il7:(48:Int)≤((S[7]'(by omega)).toNat:Int):=by omega
 have iu7:((S[7]'(by omega)).toNat:Int)≤57:=by omega
 clear l7 u7
 obtain⟨l9,u9,l10,u10⟩:=d3
 have il9:(48:Int)≤((S[9]'(by omega)).toNat:Int):=by omega
 have iu9:((S[9]'(by omega)).toNat:Int)≤57:=by omega
 clear l9 u9
 have il10:(48:Int)≤((S[10]'(by omega)).toNat:Int):=by omega
 have iu10:((S[10]'(by omega)).toNat:Int)≤57:=by omega
 clear l10 u10
 have q2:(((S[2]'(by omega)).toNat:Int) != 58)=false:=by simp;omega
 have q5:(((S[5]'(by omega)).toNat:Int) != 58)=false:=by simp;omega
 have q8:(((S[8]'(by omega)).toNat:Int) != 58)=true:=by simp;omega
 have q9:(((S[8]'(by omega)).toNat:Int) != 59)=false:=by simp;omega
 have r8:(((S[8]'(by omega)).toNat:Int) == 59)=true:=by simp;omega
 clear hb
 go_enter Tryz.func143,Tryz.ntmps143
 go_wp2_with (go_at_call 82;refine (HB.out _).mono ?_;rintro e w' ⟨rfl,rfl⟩)
 refine wp_loop_rounds 12 ?_
 rw [rounds_succ]
 go_wp2
 rw [rounds_succ]
 go_wp2
 rw [rounds_succ]
 go_wp2
 rw [rounds_succ]
 go_wp2
 rw [rounds_succ]
 go_wp2
 rw [rounds_succ]
 go_wp2
 rw [rounds_succ]
 go_wp2
 rw [rounds_succ]
 go_wp2
 rw [rounds_succ]
 go_wp2
 rw [rounds_succ]
 go_wp2
 rw [rounds_succ]
 go_wp2
 rw [rounds_succ]
 go_wp2_with (go_at_call 182;refine (HM.out _).mono ?_;rintro e w1 ⟨rfl,hg1⟩;obtain⟨hc1,hf1⟩:=hg1.cells;have hz1:=hg1.size;(try simp at hz1);(try have hl1_0_0:w.heap.size<w1.heap.size:=by omega);(try have hm1_0_0:w.heap.size≤w1.heap.size:=by omega);(try have hl1_0_1:w.heap.size+1<w1.heap.size:=by omega);(try have hl1_0_2:w.heap.size+2<w1.heap.size:=by omega))
 refine wp_region_made1 13 (.cells #[.int .i64 0,.int .i64 0,.int .i64 0,.int .i64 0,.int .i64 0,.bool false] 153) _ (by kernel_rfl) (by kernel_rfl) rfl rfl (fun a w=>by simp [execOp,go_sem]) (fun B hB hq1 hq2=>?_)
 simp only [List.take_succ_cons,List.take_zero,List.drop_succ_cons,List.drop_zero]
 repeat (first | go_big_quiet_skip | (go_big_quiet_want;go_big_quiet_op;first | go_big_quiet_on | (apply Exists.intro;refine⟨fun _=>?_,?_⟩;(· (fail));go_big_quiet_on)))
 refine wpQuiet_nil ?_
 clear hq1 hq2 hB
 rintro P w2 hg2 hs2_P hb2_P
 obtain⟨hc2,hf2⟩:=hg2.cells
 have hz2:=hg2.size
 (try simp at hz2);(try have hl2_0_0:w.heap.size<w2.heap.size:=by omega);(try have hm2_0_0:w.heap.size≤w2.heap.size:=by omega);(try have hl2_0_1:w.heap.size+1<w2.heap.size:=by omega);(try have hl2_0_2:w.heap.size+2<w2.heap.size:=by omega);(try have hl2_1_0:w1.heap.size<w2.heap.size:=by omega);(try have hm2_1_0:w1.heap.size≤w2.heap.size:=by omega);(try have hl2_1_1:w1.heap.size+1<w2.heap.size:=by omega);(try have hl2_1_2:w1.heap.size+2<w2.heap.size:=by omega)
 (try simp at hs2_P)
 have hx2_P:P<w2.heap.size:=lt_of_block hb2_P
 have hy2_P_0:=cells_of_block hb2_P 0
 have hv2_P_0:=mark_of_block hb2_P 0
 have hy2_P_1:=cells_of_block hb2_P 1
 have hv2_P_1:=mark_of_block hb2_P 1
 have hy2_P_2:=cells_of_block hb2_P 2
 have hv2_P_2:=mark_of_block hb2_P 2
 have hy2_P_3:=cells_of_block hb2_P 3
 have hv2_P_3:=mark_of_block hb2_P 3
 have hy2_P_4:=cells_of_block hb2_P 4
 have hv2_P_4:=mark_of_block hb2_P 4
 have hy2_P_5:=cells_of_block hb2_P 5
 have hv2_P_5:=mark_of_block hb2_P 5
 simp at hy2_P_0 hy2_P_1 hy2_P_2 hy2_P_3 hy2_P_4 hy2_P_5
 go_wp2_with (go_at_call 136;refine (H.out _).mono ?_;rintro e w3 ⟨rfl,hg3⟩;obtain⟨hc3,hf3⟩:=hg3.cells;have hz3:=hg3.size;(try simp at hz3);(try have hl3_0_0:w.heap.size<w3.heap.size:=by omega);(try have hm3_0_0:w.heap.size≤w3.heap.size:=by omega);(try have hl3_0_1:w.heap.size+1<w3.heap.size:=by omega);(try have hl3_0_2:w.heap.size+2<w3.heap.size:=by omega);(try have hl3_1_0:w1.heap.size<w3.heap.size:=by omega);(try have hm3_1_0:w1.heap.size≤w3.heap.size:=by omega);(try have hl3_1_1:w1.heap.size+1<w3.heap.size:=by omega);(try have hl3_1_2:w1.heap.size+2<w3.heap.size:=by omega);(try have hl3_2_0:w2.heap.size<w3.heap.size:=by omega);(try have hm3_2_0:w2.heap.size≤w3.heap.size:=by omega);(try have hl3_2_1:w2.heap.size+1<w3.heap.size:=by omega);(try have hl3_2_2:w2.heap.size+2<w3.heap.size:=by omega))
 have hgE:Gr (w.alloc (.cells #[.int .i64 0,.int .i64 0,.int .i64 0,.int .i64 0,.int .i64 0,.bool false] 153)) w3:=(by repeat (first | with_reducible exact Gr.refl _ | with_reducible assumption | refine Gr.setCell ?_ (by first | omega | (simp;done) | (simp;omega)) _ | refine Gr.alloc ?_ _ | refine Gr.drew ?_ | refine Gr.drewN ?_ _ | refine Gr.trans ?_ (by with_reducible assumption)))
 have hbE:=(Blk.new w [.int .i64 0,.int .i64 0,.int .i64 0,.int .i64 0,.int .i64 0,.bool false] 153).gr hgE
 have f0:=hbE.lt
 obtain⟨c1,f1⟩:=hbE.cel.2 0 _ rfl
 obtain⟨c2,f2⟩:=hbE.cel.2 1 _ rfl
 obtain⟨c3,f3⟩:=hbE.cel.2 2 _ rfl
 obtain⟨c4,f4⟩:=hbE.cel.2 3 _ rfl
 obtain⟨c5,f5⟩:=hbE.cel.2 4 _ rfl
 obtain⟨c6,f6⟩:=hbE.cel.2 5 _ rfl
 simp [bodyPost,results,Tryz.results143,go_sem,c1,c2,c3,c4,c5,c6,f1,f2,f3,f4,f5,f6]
 exact (by repeat (first | refine Gr.setCell ?_ (by first | omega | (simp;done) | (simp;omega)) _ | refine Gr.alloc ?_ _ | refine Gr.drew ?_ | refine Gr.drewN ?_ _ | with_reducible assumption | with_reducible exact Gr.refl _ | refine Gr.trans ?_ (by with_reducible assumption)))
theorem rparse_good59 (S:ByteArray) (b V:Int) (w:World) (hb:C19.isB b=true) (hS:S.size=11)
  (d0:dg2 (S[0]'(by omega)) (S[1]'(by omega))) (d1:dg2 (S[3]'(by omega)) (S[4]'(by omega))) (d2:dg2 (S[6]'(by omega)) (S[7]'(by omega))) (d3:dg2 (S[9]'(by omega)) (S[10]'(by omega))) (m2:((S[2]'(by omega)).toNat:Int)=58) (m5:((S[5]'(by omega)).toNat:Int)=58) (m8:((S[8]'(by omega)).toNat:Int)=59)
  (H:∀ w,Calls Tryz.prog 136 #[.agg #[.int .i64 (n2 (S[0]'(by omega)) (S[1]'(by omega))),.int .i64 (n2 (S[3]'(by omega)) (S[4]'(by omega))),.int .i64 (n2 (S[6]'(by omega)) (S[7]'(by omega))),.int .i64 (n2 (S[9]'(by omega)) (S[10]'(by omega))),.int .i64 b,.bool true]] w fun e w'=>e=.returned (.tuple #[.int .i64 V,.int .i64 0])∧Gr w w') :
  Calls Tryz.prog 143 #[.string S,.int .i64 b] w fun e w'=>e=.returned (.tuple #[.agg #[.int .i64 (n2 (S[0]'(by omega)) (S[1]'(by omega))),.int .i64 (n2 (S[3]'(by omega)) (S[4]'(by omega))),.int .i64 (n2 (S[6]'(by omega)) (S[7]'(by omega))),.int .i64 (n2 (S[9]'(by omega)) (S[10]'(by omega))),.int .i64 b,.bool true],.int .i64 0])∧Gr w w':=
 rparse_good59_core S b V _ _ _ _ w hb hS d0 d1 d2 d3 m2 m5 m8 (fun w=>rnumbers_any S w hS d0 d1 d2 d3) H
set_option maxRecDepth 100000 in
set_option maxHeartbeats 4000000 in
theorem rparse_err59_core (S:ByteArray) (b V E x0 x1 x2 x3:Int) (w:World) (hE:E≠0) (hb:C19.isB b=true) (hS:S.size=11)
  (d0:dg2 (S[0]'(by omega)) (S[1]'(by omega))) (d1:dg2 (S[3]'(by omega)) (S[4]'(by omega))) (d2:dg2 (S[6]'(by omega)) (S[7]'(by omega))) (d3:dg2 (S[9]'(by omega)) (S[10]'(by omega))) (m2:((S[2]'(by omega)).toNat:Int)=58) (m5:((S[5]'(by omega)).toNat:Int)=58) (m8:((S[8]'(by omega)).toNat:Int)=59)
  (HM:∀ w,Calls Tryz.prog 182 #[.string S] w fun e w'=>e=.returned (.agg #[.int .i64 x0,.int .i64 x1,.int .i64 x2,.int .i64 x3])∧Gr w w')
  (H:∀ w,Calls Tryz.prog 136 #[.agg #[.int .i64 x0,.int .i64 x1,.int .i64 x2,.int .i64 x3,.int .i64 b,.bool true]] w fun e w'=>e=.returned (.tuple #[.int .i64 V,.int .i64 E])∧Gr w w') :
  Calls Tryz.prog 143 #[.string S,.int .i64 b] w fun e w'=>e=.returned (.tuple #[.agg #[.int .i64 0,.int .i64 0,.int .i64 0,.int .i64 0,.int .i64 0,.bool false],.int .i64 E])∧Gr w w':=by
 replace H:=Lib.hid H
 replace HM:=Lib.hid HM
 have HB:=Lib.hid (fun w=>hb ▸ C19.known_any b w)
 have qE:(E != 0)=true:=by simp [hE]
 replace hE:=Lib.hid hE
 obtain⟨l0,u0,l1,u1⟩:=d0
 have il0:(48:Int)≤((S[0]'(by omega)).toNat:Int):=by omega
 have iu0:((S[0]'(by omega)).toNat:Int)≤57:=by omega
 clear l0 u0
 have il1:(48:Int)≤((S[1]'(by omega)).toNat:Int):=by omega
 have iu1:((S[1]'(by omega)).toNat:Int)≤57:=by omega
 clear l1 u1
 obtain⟨l3,u3,l4,u4⟩:=d1
 have il3:(48:Int)≤((S[3]'(by omega)).toNat:Int):=by omega
 have iu3:((S[3]'(by omega)).toNat:Int)≤57:=by omega
 clear l3 u3
 have il4:(48:Int)≤((S[4]'(by omega)).toNat:Int):=by omega
 have iu4:((S[4]'(by omega)).toNat:Int)≤57:=by omega
 clear l4 u4
 obtain⟨l6,u6,l7,u7⟩:=d2
 have il6:(48:Int)≤((S[6]'(by omega)).toNat:Int):=by omega
 have iu6:((S[6]'(by omega)).toNat:Int)≤57:=by omega
 clear l6 u6
 have il7:(48:Int)≤((S[7]'(by omega)).toNat:Int):=by omega
 have iu7:((S[7]'(by omega)).toNat:Int)≤57:=by omega
 clear l7 u7
 obtain⟨l9,u9,l10,u10⟩:=d3
 have il9:(48:Int)≤((S[9]'(by omega)).toNat:Int):=by omega
 have iu9:((S[9]'(by omega)).toNat:Int)≤57:=by omega
 clear l9 u9
 have il10:(48:Int)≤((S[10]'(by omega)).toNat:Int):=by omega
 have iu10:((S[10]'(by omega)).toNat:Int)≤57:=by omega
 clear l10 u10
 have q2:(((S[2]'(by omega)).toNat:Int) != 58)=false:=by simp;omega
 have q5:(((S[5]'(by omega)).toNat:Int) != 58)=false:=by simp;omega
 have q8:(((S[8]'(by omega)).toNat:Int) != 58)=true:=by simp;omega
 have q9:(((S[8]'(by omega)).toNat:Int) != 59)=false:=by simp;omega
 have r8:(((S[8]'(by omega)).toNat:Int) == 59)=true:=by simp;omega
 clear hb
 go_enter Tryz.func143,Tryz.ntmps143
 go_wp2_with (go_at_call 82;refine (HB.out _).mono ?_;rintro e w' ⟨rfl,rfl⟩)
 refine wp_loop_rounds 12 ?_
 rw [rounds_succ]
 go_wp2
 rw [rounds_succ]
 go_wp2
 rw [rounds_succ]
 go_wp2
 rw [rounds_succ]
 go_wp2
 rw [rounds_succ]
 go_wp2
 rw [rounds_succ]
 go_wp2
 rw [rounds_succ]
 go_wp2
 rw [rounds_succ]
 go_wp2
 rw [rounds_succ]
 go_wp2
 rw [rounds_succ]
 go_wp2
 rw [rounds_succ]
 go_wp2
 rw [rounds_succ]
 go_wp2_with (go_at_call 182;refine (HM.out _).mono ?_;rintro e w1 ⟨rfl,hg1⟩;obtain⟨hc1,hf1⟩:=hg1.cells;have hz1:=hg1.size;(try simp at hz1);(try have hl1_0_0:w.heap.size<w1.heap.size:=by omega);(try have hm1_0_0:w.heap.size≤w1.heap.size:=by omega);(try have hl1_0_1:w.heap.size+1<w1.heap.size:=by omega);(try have hl1_0_2:w.heap.size+2<w1.heap.size:=by omega))
 refine wp_region_made1 13 (.cells #[.int .i64 0,.int .i64 0,.int .i64 0,.int .i64 0,.int .i64 0,.bool false] 153) _ (by kernel_rfl) (by kernel_rfl) rfl rfl (fun a w=>by simp [execOp,go_sem]) (fun B hB hq1 hq2=>?_)
 simp only [List.take_succ_cons,List.take_zero,List.drop_succ_cons,List.drop_zero]
 repeat (first | go_big_quiet_skip | (go_big_quiet_want;go_big_quiet_op;first | go_big_quiet_on | (apply Exists.intro;refine⟨fun _=>?_,?_⟩;(· (fail));go_big_quiet_on)))
 refine wpQuiet_nil ?_
 clear hq1 hq2 hB
 rintro P w2 hg2 hs2_P hb2_P
 obtain⟨hc2,hf2⟩:=hg2.cells
 have hz2:=hg2.size
 (try simp at hz2);(try have hl2_0_0:w.heap.size<w2.heap.size:=by omega);(try have hm2_0_0:w.heap.size≤w2.heap.size:=by omega);(try have hl2_0_1:w.heap.size+1<w2.heap.size:=by omega);(try have hl2_0_2:w.heap.size+2<w2.heap.size:=by omega);(try have hl2_1_0:w1.heap.size<w2.heap.size:=by omega);(try have hm2_1_0:w1.heap.size≤w2.heap.size:=by omega);(try have hl2_1_1:w1.heap.size+1<w2.heap.size:=by omega);(try have hl2_1_2:w1.heap.size+2<w2.heap.size:=by omega)
 (try simp at hs2_P)
 have hx2_P:P<w2.heap.size:=lt_of_block hb2_P
 have hy2_P_0:=cells_of_block hb2_P 0
 have hv2_P_0:=mark_of_block hb2_P 0
 have hy2_P_1:=cells_of_block hb2_P 1
 have hv2_P_1:=mark_of_block hb2_P 1
 have hy2_P_2:=cells_of_block hb2_P 2
 have hv2_P_2:=mark_of_block hb2_P 2
 have hy2_P_3:=cells_of_block hb2_P 3
 have hv2_P_3:=mark_of_block hb2_P 3
 have hy2_P_4:=cells_of_block hb2_P 4
 have hv2_P_4:=mark_of_block hb2_P 4
 have hy2_P_5:=cells_of_block hb2_P 5
 have hv2_P_5:=mark_of_block hb2_P 5
 simp at hy2_P_0 hy2_P_1 hy2_P_2 hy2_P_3 hy2_P_4 hy2_P_5
 go_wp2_with (go_at_call 136;refine (H.out _).mono ?_;rintro e w3 ⟨rfl,hg3⟩;obtain⟨hc3,hf3⟩:=hg3.cells;have hz3:=hg3.size;(try simp at hz3);(try have hl3_0_0:w.heap.size<w3.heap.size:=by omega);(try have hm3_0_0:w.heap.size≤w3.heap.size:=by omega);(try have hl3_0_1:w.heap.size+1<w3.heap.size:=by omega);(try have hl3_0_2:w.heap.size+2<w3.heap.size:=by omega);(try have hl3_1_0:w1.heap.size<w3.heap.size:=by omega);(try have hm3_1_0:w1.heap.size≤w3.heap.size:=by omega);(try have hl3_1_1:w1.heap.size+1<w3.heap.size:=by omega);(try have hl3_1_2:w1.heap.size+2<w3.heap.size:=by omega);(try have hl3_2_0:w2.heap.size<w3.heap.size:=by omega);(try have hm3_2_0:w2.heap.size≤w3.heap.size:=by omega);(try have hl3_2_1:w2.heap.size+1<w3.heap.size:=by omega);(try have hl3_2_2:w2.heap.size+2<w3.heap.size:=by omega))
 have hgE:Gr (w.alloc (.cells #[.int .i64 0,.int .i64 0,.int .i64 0,.int .i64 0,.int .i64 0,.bool false] 153)) w3:=(by repeat (first | with_reducible exact Gr.refl _ | with_reducible assumption | refine Gr.setCell ?_ (by first | omega | (simp;done) | (simp;omega)) _ | refine Gr.alloc ?_ _ | refine Gr.drew ?_ | refine Gr.drewN ?_ _ | refine Gr.trans ?_ (by with_reducible assumption)))
 have hbE:=(Blk.new w [.int .i64 0,.int .i64 0,.int .i64 0,.int .i64 0,.int .i64 0,.bool false] 153).gr hgE
 have f0:=hbE.lt
 obtain⟨c1,f1⟩:=hbE.cel.2 0 _ rfl
 obtain⟨c2,f2⟩:=hbE.cel.2 1 _ rfl
 obtain⟨c3,f3⟩:=hbE.cel.2 2 _ rfl
 obtain⟨c4,f4⟩:=hbE.cel.2 3 _ rfl
 obtain⟨c5,f5⟩:=hbE.cel.2 4 _ rfl
 obtain⟨c6,f6⟩:=hbE.cel.2 5 _ rfl
 simp [bodyPost,results,Tryz.results143,go_sem,c1,c2,c3,c4,c5,c6,f1,f2,f3,f4,f5,f6]
 exact (by repeat (first | refine Gr.setCell ?_ (by first | omega | (simp;done) | (simp;omega)) _ | refine Gr.alloc ?_ _ | refine Gr.drew ?_ | refine Gr.drewN ?_ _ | with_reducible assumption | with_reducible exact Gr.refl _ | refine Gr.trans ?_ (by with_reducible assumption)))
theorem rparse_err59 (S:ByteArray) (b V E:Int) (w:World) (hE:E=1∨E=2) (hb:C19.isB b=true) (hS:S.size=11)
  (d0:dg2 (S[0]'(by omega)) (S[1]'(by omega))) (d1:dg2 (S[3]'(by omega)) (S[4]'(by omega))) (d2:dg2 (S[6]'(by omega)) (S[7]'(by omega))) (d3:dg2 (S[9]'(by omega)) (S[10]'(by omega))) (m2:((S[2]'(by omega)).toNat:Int)=58) (m5:((S[5]'(by omega)).toNat:Int)=58) (m8:((S[8]'(by omega)).toNat:Int)=59)
  (H:∀ w,Calls Tryz.prog 136 #[.agg #[.int .i64 (n2 (S[0]'(by omega)) (S[1]'(by omega))),.int .i64 (n2 (S[3]'(by omega)) (S[4]'(by omega))),.int .i64 (n2 (S[6]'(by omega)) (S[7]'(by omega))),.int .i64 (n2 (S[9]'(by omega)) (S[10]'(by omega))),.int .i64 b,.bool true]] w fun e w'=>e=.returned (.tuple #[.int .i64 V,.int .i64 E])∧Gr w w') :
  Calls Tryz.prog 143 #[.string S,.int .i64 b] w fun e w'=>e=.returned (.tuple #[.agg #[.int .i64 0,.int .i64 0,.int .i64 0,.int .i64 0,.int .i64 0,.bool false],.int .i64 E])∧Gr w w':=
 rparse_err59_core S b V E _ _ _ _ w (by omega) hb hS d0 d1 d2 d3 m2 m5 m8 (fun w=>rnumbers_any S w hS d0 d1 d2 d3) H
theorem rparse_bad (S:ByteArray) (b:Int) (w:World) (hb:C19.isB b=true) (hS:S.size=11)
  (hbad:¬ (dg2 (S[0]'(by omega)) (S[1]'(by omega))∧dg2 (S[3]'(by omega)) (S[4]'(by omega))∧dg2 (S[6]'(by omega)) (S[7]'(by omega))∧dg2 (S[9]'(by omega)) (S[10]'(by omega))∧(S[2]'(by omega)).toNat=58∧(S[5]'(by omega)).toNat=58∧((S[8]'(by omega)).toNat=58∨(S[8]'(by omega)).toNat=59))) :
  Calls Tryz.prog 143 #[.string S,.int .i64 b] w fun e w'=>e=.returned (.tuple #[.agg #[.int .i64 0,.int .i64 0,.int .i64 0,.int .i64 0,.int .i64 0,.bool false],.int .i64 3])∧Gr w w':=by
 by_cases h1:((S[8]'(by omega)).toNat:Int)=58
 ·exact rparse_bad58 S b w hb hS h1 hbad
 ·by_cases h2:((S[8]'(by omega)).toNat:Int)=59
  ·exact rparse_bad59 S b w hb hS h2 hbad
  ·exact rparse_bad8 S b w hb hS ⟨h1,h2⟩ hbad
theorem rparse_any (S:ByteArray) (b:Int):∃ (h m s f x:Int) (d:Bool) (E:Int),TpR b S h m s f x d E∧∀ w,Calls Tryz.prog 143 #[.string S,.int .i64 b] w fun e w'=>e=.returned (.tuple #[.agg #[.int .i64 h,.int .i64 m,.int .i64 s,.int .i64 f,.int .i64 x,.bool d],.int .i64 E])∧Gr w w':=by
 by_cases hb:C19.isB b=true
 case neg=>
  have hb:C19.isB b=false:=by simpa using hb
  refine⟨0,0,0,0,0,false,1,fun n d' ho _ _ _=>?_,fun w=>rparse_base S b w hb⟩
  rw [(C19.okB_true ho).1] at hb
  cases hb
 by_cases hs:S.size=11
 case neg=>
  refine⟨0,0,0,0,0,false,3,fun n d' ho _ _ hl=>?_,fun w=>rparse_size S b w hb hs⟩
  obtain⟨p1,p2,p3,p4⟩:=lab_parts (n:=n) ho
  obtain⟨z,_⟩:=fmt_bytes _ _ _ _ _ S (lab_eq hl) p1 p2 p3 p4
  exact absurd z hs
 by_cases hg:dg2 (S[0]'(by omega)) (S[1]'(by omega))∧dg2 (S[3]'(by omega)) (S[4]'(by omega))∧dg2 (S[6]'(by omega)) (S[7]'(by omega))∧dg2 (S[9]'(by omega)) (S[10]'(by omega))∧(S[2]'(by omega)).toNat=58∧(S[5]'(by omega)).toNat=58∧((S[8]'(by omega)).toNat=58∨(S[8]'(by omega)).toNat=59)
 case neg=>
  refine⟨0,0,0,0,0,false,3,fun n d' ho _ _ hl=>absurd ?_ hg,fun w=>rparse_bad S b w hb hs hg⟩
  obtain⟨p1,p2,p3,p4⟩:=lab_parts (n:=n) ho
  obtain⟨z,g0,g1,g2,g3,g4,g5,g6,g7,g8,g9,g10⟩:=fmt_bytes _ _ _ _ _ S (lab_eq hl) p1 p2 p3 p4
  unfold dg2
  refine⟨by omega,by omega,by omega,by omega,g2,g5,?_⟩
  rw [g8]
  cases d' <;> simp
 obtain⟨⟨a0,a0',a1,a1'⟩,⟨a3,a3',a4,a4'⟩,⟨a6,a6',a7,a7'⟩,⟨a9,a9',a10,a10'⟩,m2,m5,m8⟩:=hg
 have key:∀ D:Bool,(S[8]'(by omega)).toNat=(if D then 59 else 58)→TpR b S (n2 (S[0]'(by omega)) (S[1]'(by omega))) (n2 (S[3]'(by omega)) (S[4]'(by omega))) (n2 (S[6]'(by omega)) (S[7]'(by omega))) (n2 (S[9]'(by omega)) (S[10]'(by omega))) b D (C19.nmE (n2 (S[0]'(by omega)) (S[1]'(by omega))) (n2 (S[3]'(by omega)) (S[4]'(by omega))) (n2 (S[6]'(by omega)) (S[7]'(by omega))) (n2 (S[9]'(by omega)) (S[10]'(by omega))) b D):=by
  intro D hD n d' ho h0 h1 hl
  obtain⟨p1,p2,p3,p4⟩:=lab_parts (n:=n) ho
  obtain⟨z,g0,g1,g2,g3,g4,g5,g6,g7,g8,g9,g10⟩:=fmt_bytes _ _ _ _ _ S (lab_eq hl) p1 p2 p3 p4
  have hDd:D=d':=by
   rw [hD] at g8
   cases D <;> cases d' <;> simp at g8 <;> rfl
  have lo:=lab_ok ho h0 h1
  generalize C19.lm n b d' / 60=lh at *
  generalize C19.lm n b d' % 60=lm at *
  generalize C19.lf n b d' / b=ls at *
  generalize C19.lf n b d' % b=lf at *
  have e1:n2 (S[0]'(by omega)) (S[1]'(by omega))=lh:=by unfold n2;omega
  have e2:n2 (S[3]'(by omega)) (S[4]'(by omega))=lm:=by unfold n2;omega
  have e3:n2 (S[6]'(by omega)) (S[7]'(by omega))=ls:=by unfold n2;omega
  have e4:n2 (S[9]'(by omega)) (S[10]'(by omega))=lf:=by unfold n2;omega
  rw [e1,e2,e3,e4,hDd]
  exact⟨lo,rfl,rfl,rfl,rfl,rfl,rfl⟩
 have bad:∀ (D:Bool) (h m s f x:Int) (E:Int),(E=1∨E=2)→TpR b S h m s f x D E→TpR b S 0 0 0 0 0 false E:=by
  intro D h m s f x E hE ht n d' ho h0 h1 hl
  have:=(ht n d' ho h0 h1 hl).1
  omega
 by_cases q58:(S[8]'(by omega)).toNat=58
 case pos=>
  have kk:=key false (by rw [q58];rfl)
  have HN:=fun w=>C19.rnumber_any (n2 (S[0]'(by omega)) (S[1]'(by omega))) (n2 (S[3]'(by omega)) (S[4]'(by omega))) (n2 (S[6]'(by omega)) (S[7]'(by omega))) (n2 (S[9]'(by omega)) (S[10]'(by omega))) b false w
  rcases C19.nmE_cases (n2 (S[0]'(by omega)) (S[1]'(by omega))) (n2 (S[3]'(by omega)) (S[4]'(by omega))) (n2 (S[6]'(by omega)) (S[7]'(by omega))) (n2 (S[9]'(by omega)) (S[10]'(by omega))) b false with ⟨e0,_⟩ | ⟨e0,_⟩
  ·rw [e0] at HN kk
   exact⟨_,_,_,_,_,_,_,kk,fun w=>rparse_good58 S b _ w hb hs ⟨a0,a0',a1,a1'⟩ ⟨a3,a3',a4,a4'⟩ ⟨a6,a6',a7,a7'⟩ ⟨a9,a9',a10,a10'⟩ (by omega) (by omega) (by omega) HN⟩
  ·exact⟨0,0,0,0,0,false,_,bad _ _ _ _ _ _ _ e0 kk,fun w=>rparse_err58 S b _ _ w e0 hb hs ⟨a0,a0',a1,a1'⟩ ⟨a3,a3',a4,a4'⟩ ⟨a6,a6',a7,a7'⟩ ⟨a9,a9',a10,a10'⟩ (by omega) (by omega) (by omega) HN⟩
 by_cases q59:(S[8]'(by omega)).toNat=59
 case pos=>
  have kk:=key true (by rw [q59];rfl)
  have HN:=fun w=>C19.rnumber_any (n2 (S[0]'(by omega)) (S[1]'(by omega))) (n2 (S[3]'(by omega)) (S[4]'(by omega))) (n2 (S[6]'(by omega)) (S[7]'(by omega))) (n2 (S[9]'(by omega)) (S[10]'(by omega))) b true w
  rcases C19.nmE_cases (n2 (S[0]'(by omega)) (S[1]'(by omega))) (n2 (S[3]'(by omega)) (S[4]'(by omega))) (n2 (S[6]'(by omega)) (S[7]'(by omega))) (n2 (S[9]'(by omega)) (S[10]'(by omega))) b true with ⟨e0,_⟩ | ⟨e0,_⟩
  ·rw [e0] at HN kk
   exact⟨_,_,_,_,_,_,_,kk,fun w=>rparse_good59 S b _ w hb hs ⟨a0,a0',a1,a1'⟩ ⟨a3,a3',a4,a4'⟩ ⟨a6,a6',a7,a7'⟩ ⟨a9,a9',a10,a10'⟩ (by omega) (by omega) (by omega) HN⟩
  ·exact⟨0,0,0,0,0,false,_,bad _ _ _ _ _ _ _ e0 kk,fun w=>rparse_err59 S b _ _ w e0 hb hs ⟨a0,a0',a1,a1'⟩ ⟨a3,a3',a4,a4'⟩ ⟨a6,a6',a7,a7'⟩ ⟨a9,a9',a10,a10'⟩ (by omega) (by omega) (by omega) HN⟩
 omega
end Go.Proofs.YtgbiodnfpbhjiaaGreatDoor
