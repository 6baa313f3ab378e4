/-
  Contract of Parse of package timecode, at a text of the right form.
  Conditions: the arguments are integers of their kinds.
-/
import Derived.Test.YtgbiodnfpbhjiaaGreatDoorWalk19H
import Derived.Test.YtgbiodnfpbhjiaaGreatDoorWalkTl
namespace Go.Proofs.YtgbiodnfpbhjiaaGreatDoor.C19
open Go.RowKit
set_option linter.unusedSimpArgs false
set_option linter.unusedVariables false
theorem wp_gen {P:Program} {c:Code} {Q:Exit→Act→World→Prop} {a:Act} {W:World} (R:World→Prop) (hR:R W) (h:∀ W',R W'→c.wp P Q a W'):c.wp P Q a W:=h W hR
set_option maxRecDepth 100000 in
set_option maxHeartbeats 4000000 in
theorem parse_plain (S:ByteArray) (b V:Int) (w:World) (hb:isB b=true) (hS:S.size=11)
  (a0:48≤((S[0]'(by omega)).toNat:Int)∧((S[0]'(by omega)).toNat:Int)≤57) (a1:48≤((S[1]'(by omega)).toNat:Int)∧((S[1]'(by omega)).toNat:Int)≤57) (a3:48≤((S[3]'(by omega)).toNat:Int)∧((S[3]'(by omega)).toNat:Int)≤57) (a4:48≤((S[4]'(by omega)).toNat:Int)∧((S[4]'(by omega)).toNat:Int)≤57) (a6:48≤((S[6]'(by omega)).toNat:Int)∧((S[6]'(by omega)).toNat:Int)≤57) (a7:48≤((S[7]'(by omega)).toNat:Int)∧((S[7]'(by omega)).toNat:Int)≤57) (a9:48≤((S[9]'(by omega)).toNat:Int)∧((S[9]'(by omega)).toNat:Int)≤57) (a10:48≤((S[10]'(by omega)).toNat:Int)∧((S[10]'(by omega)).toNat:Int)≤57)
  (m2:((S[2]'(by omega)).toNat:Int)=58) (m5:((S[5]'(by omega)).toNat:Int)=58) (m8:((S[8]'(by omega)).toNat:Int)=58)
  (H:∀ w,Calls Tryz.prog 176 #[.agg #[.int .i64 ((((S[0]'(by omega)).toNat:Int) - 48) * 10+(((S[1]'(by omega)).toNat:Int) - 48)),.int .i64 ((((S[3]'(by omega)).toNat:Int) - 48) * 10+(((S[4]'(by omega)).toNat:Int) - 48)),.int .i64 ((((S[6]'(by omega)).toNat:Int) - 48) * 10+(((S[7]'(by omega)).toNat:Int) - 48)),.int .i64 ((((S[9]'(by omega)).toNat:Int) - 48) * 10+(((S[10]'(by omega)).toNat:Int) - 48)),.int .i64 b,.bool false]] w fun e w'=>e=.returned (.tuple #[.int .i64 V,.int .i64 0])∧Gr w w') :
  Calls Tryz.prog 181 #[.string S,.int .i64 b] w fun e w'=>e=.returned (.tuple #[.agg #[.int .i64 ((((S[0]'(by omega)).toNat:Int) - 48) * 10+(((S[1]'(by omega)).toNat:Int) - 48)),.int .i64 ((((S[3]'(by omega)).toNat:Int) - 48) * 10+(((S[4]'(by omega)).toNat:Int) - 48)),.int .i64 ((((S[6]'(by omega)).toNat:Int) - 48) * 10+(((S[7]'(by omega)).toNat:Int) - 48)),.int .i64 ((((S[9]'(by omega)).toNat:Int) - 48) * 10+(((S[10]'(by omega)).toNat:Int) - 48)),.int .i64 b,.bool false],.int .i64 0])∧Gr w w':=by
 have HN:=Lib.hid H
 have HB:=Lib.hid (fun w=>hb ▸ isBase_any b w)
 obtain⟨a0l,a0h⟩:=a0
 obtain⟨a1l,a1h⟩:=a1
 obtain⟨a3l,a3h⟩:=a3
 obtain⟨a4l,a4h⟩:=a4
 obtain⟨a6l,a6h⟩:=a6
 obtain⟨a7l,a7h⟩:=a7
 obtain⟨a9l,a9h⟩:=a9
 obtain⟨a10l,a10h⟩:=a10
 clear H hb
 go_enter Tryz.func181,Tryz.ntmps181
 go_wp2_with (go_at_call 77;refine (HB.out _).mono ?_;rintro e w' ⟨rfl,rfl⟩)
 refine wp_loop_rounds 5 ?_
 rw [rounds_succ]
 go_wp2
 go_quiet (fail)
 go_wp2
 rw [rounds_succ]
 go_wp2
 go_quiet (fail)
 go_wp2
 rw [rounds_succ]
 go_wp2
 go_quiet (fail)
 go_wp2
 rw [rounds_succ]
 go_wp2
 go_quiet (fail)
 go_wp2
 rw [rounds_succ]
 go_wp2
 refine wp_gen (R:=fun W=>Gr (w.alloc (.cells #[.int .i64 0,.int .i64 0,.int .i64 0,.int .i64 0,.int .i64 0,.bool false] 153)) W∧w.heap.size+1<W.heap.size∧W.cell? ⟨w.heap.size+1,0,none⟩=some (.int .i64 ((((S[0]'(by omega)).toNat:Int) - 48) * 10+(((S[1]'(by omega)).toNat:Int) - 48)))∧W.cell? ⟨w.heap.size+1,1,none⟩=some (.int .i64 ((((S[3]'(by omega)).toNat:Int) - 48) * 10+(((S[4]'(by omega)).toNat:Int) - 48)))∧W.cell? ⟨w.heap.size+1,2,none⟩=some (.int .i64 ((((S[6]'(by omega)).toNat:Int) - 48) * 10+(((S[7]'(by omega)).toNat:Int) - 48)))∧W.cell? ⟨w.heap.size+1,3,none⟩=some (.int .i64 ((((S[9]'(by omega)).toNat:Int) - 48) * 10+(((S[10]'(by omega)).toNat:Int) - 48)))) ⟨(by repeat (first | with_reducible exact Gr.refl _ | with_reducible assumption | refine Gr.setCell ?_ (by first | omega | (simp;done) | (simp;omega)) _ | refine Gr.alloc ?_ _ | refine Gr.drew ?_ | refine Gr.drewN ?_ _ | refine Gr.trans ?_ (by with_reducible assumption))),by simp,by simp [go_sem],by simp [go_sem],by simp [go_sem],by simp [go_sem]⟩ ?_
 rintro W ⟨hgW,hsW,k0,k1,k2,k3⟩
 obtain⟨hcW,hfW⟩:=hgW.cells
 have hlW:w.heap.size<W.heap.size:=by omega
 have hmW:w.heap.size≤W.heap.size:=by omega
 go_region
 go_wp2_with (go_at_call 176;refine (HN.out _).mono ?_;rintro e w3 ⟨rfl,hg3⟩;obtain⟨hc3,hf3⟩:=hg3.cells;have hz3:=hg3.size;(try simp at hz3);(try have hl3_0_0:w.heap.size<w3.heap.size:=by omega);(try have hm3_0_0:w.heap.size≤w3.heap.size:=by omega);(try have hl3_0_1:w.heap.size+1<w3.heap.size:=by omega);(try have hl3_0_2:w.heap.size+2<w3.heap.size:=by omega);(try have hl3_1_0:w1.heap.size<w3.heap.size:=by omega);(try have hm3_1_0:w1.heap.size≤w3.heap.size:=by omega);(try have hl3_1_1:w1.heap.size+1<w3.heap.size:=by omega);(try have hl3_1_2:w1.heap.size+2<w3.heap.size:=by omega);(try have hl3_2_0:w2.heap.size<w3.heap.size:=by omega);(try have hm3_2_0:w2.heap.size≤w3.heap.size:=by omega);(try have hl3_2_1:w2.heap.size+1<w3.heap.size:=by omega);(try have hl3_2_2:w2.heap.size+2<w3.heap.size:=by omega))
 have t0:=hc3 w.heap.size 0 (by simp;omega)
 have t1:=hc3 w.heap.size 1 (by simp;omega)
 have t2:=hc3 w.heap.size 2 (by simp;omega)
 have t3:=hc3 w.heap.size 3 (by simp;omega)
 have t4:=hc3 w.heap.size 4 (by simp;omega)
 have t5:=hc3 w.heap.size 5 (by simp;omega)
 have t6:=hf3 w.heap.size 0 (by simp;omega)
 simp [go_sem,hlW,hcW] at t0 t1 t2 t3 t4 t5
 simp [go_sem,hlW,hfW] at t6
 simp [bodyPost,results,Tryz.results181,go_sem,t0,t1,t2,t3,t4,t5,t6]
 exact (by repeat (first | refine Gr.setCell ?_ (by first | omega | (simp;done) | (simp;omega)) _ | refine Gr.alloc ?_ _ | refine Gr.drew ?_ | refine Gr.drewN ?_ _ | with_reducible assumption | with_reducible exact Gr.refl _ | refine Gr.trans ?_ (by with_reducible assumption)))
set_option maxRecDepth 100000 in
set_option maxHeartbeats 4000000 in
theorem parse_drop (S:ByteArray) (b V:Int) (w:World) (hb:isB b=true) (hS:S.size=11)
  (a0:48≤((S[0]'(by omega)).toNat:Int)∧((S[0]'(by omega)).toNat:Int)≤57) (a1:48≤((S[1]'(by omega)).toNat:Int)∧((S[1]'(by omega)).toNat:Int)≤57) (a3:48≤((S[3]'(by omega)).toNat:Int)∧((S[3]'(by omega)).toNat:Int)≤57) (a4:48≤((S[4]'(by omega)).toNat:Int)∧((S[4]'(by omega)).toNat:Int)≤57) (a6:48≤((S[6]'(by omega)).toNat:Int)∧((S[6]'(by omega)).toNat:Int)≤57) (a7:48≤((S[7]'(by omega)).toNat:Int)∧((S[7]'(by omega)).toNat:Int)≤57) (a9:48≤((S[9]'(by omega)).toNat:Int)∧((S[9]'(by omega)).toNat:Int)≤57) (a10:48≤((S[10]'(by omega)).toNat:Int)∧((S[10]'(by omega)).toNat:Int)≤57)
  (m2:((S[2]'(by omega)).toNat:Int)=58) (m5:((S[5]'(by omega)).toNat:Int)=58) (m8:((S[8]'(by omega)).toNat:Int)=59)
  (H:∀ w,Calls Tryz.prog 176 #[.agg #[.int .i64 ((((S[0]'(by omega)).toNat:Int) - 48) * 10+(((S[1]'(by omega)).toNat:Int) - 48)),.int .i64 ((((S[3]'(by omega)).toNat:Int) - 48) * 10+(((S[4]'(by omega)).toNat:Int) - 48)),.int .i64 ((((S[6]'(by omega)).toNat:Int) - 48) * 10+(((S[7]'(by omega)).toNat:Int) - 48)),.int .i64 ((((S[9]'(by omega)).toNat:Int) - 48) * 10+(((S[10]'(by omega)).toNat:Int) - 48)),.int .i64 b,.bool true]] w fun e w'=>e=.returned (.tuple #[.int .i64 V,.int .i64 0])∧Gr w w') :
  Calls Tryz.prog 181 #[.string S,.int .i64 b] w fun e w'=>e=.returned (.tuple #[.agg #[.int .i64 ((((S[0]'(by omega)).toNat:Int) - 48) * 10+(((S[1]'(by omega)).toNat:Int) - 48)),.int .i64 ((((S[3]'(by omega)).toNat:Int) - 48) * 10+(((S[4]'(by omega)).toNat:Int) - 48)),.int .i64 ((((S[6]'(by omega)).toNat:Int) - 48) * 10+(((S[7]'(by omega)).toNat:Int) - 48)),.int .i64 ((((S[9]'(by omega)).toNat:Int) - 48) * 10+(((S[10]'(by omega)).toNat:Int) - 48)),.int .i64 b,.bool true],.int .i64 0])∧Gr w w':=by
 have HN:=Lib.hid H
 have HB:=Lib.hid (fun w=>hb ▸ isBase_any b w)
 obtain⟨a0l,a0h⟩:=a0
 obtain⟨a1l,a1h⟩:=a1
 obtain⟨a3l,a3h⟩:=a3
 obtain⟨a4l,a4h⟩:=a4
 obtain⟨a6l,a6h⟩:=a6
 obtain⟨a7l,a7h⟩:=a7
 obtain⟨a9l,a9h⟩:=a9
 obtain⟨a10l,a10h⟩:=a10
 clear H hb
 go_enter Tryz.func181,Tryz.ntmps181
 go_wp2_with (go_at_call 77;refine (HB.out _).mono ?_;rintro e w' ⟨rfl,rfl⟩)
 refine wp_loop_rounds 5 ?_
 rw [rounds_succ]
 go_wp2
 go_quiet (fail)
 go_wp2
 rw [rounds_succ]
 go_wp2
 go_quiet (fail)
 go_wp2
 rw [rounds_succ]
 go_wp2
 go_quiet (fail)
 go_wp2
 rw [rounds_succ]
 go_wp2
 go_quiet (fail)
 go_wp2
 rw [rounds_succ]
 go_wp2
 refine wp_gen (R:=fun W=>Gr (w.alloc (.cells #[.int .i64 0,.int .i64 0,.int .i64 0,.int .i64 0,.int .i64 0,.bool false] 153)) W∧w.heap.size+1<W.heap.size∧W.cell? ⟨w.heap.size+1,0,none⟩=some (.int .i64 ((((S[0]'(by omega)).toNat:Int) - 48) * 10+(((S[1]'(by omega)).toNat:Int) - 48)))∧W.cell? ⟨w.heap.size+1,1,none⟩=some (.int .i64 ((((S[3]'(by omega)).toNat:Int) - 48) * 10+(((S[4]'(by omega)).toNat:Int) - 48)))∧W.cell? ⟨w.heap.size+1,2,none⟩=some (.int .i64 ((((S[6]'(by omega)).toNat:Int) - 48) * 10+(((S[7]'(by omega)).toNat:Int) - 48)))∧W.cell? ⟨w.heap.size+1,3,none⟩=some (.int .i64 ((((S[9]'(by omega)).toNat:Int) - 48) * 10+(((S[10]'(by omega)).toNat:Int) - 48)))) ⟨(by repeat (first | with_reducible exact Gr.refl _ | with_reducible assumption | refine Gr.setCell ?_ (by first | omega | (simp;done) | (simp;omega)) _ | refine Gr.alloc ?_ _ | refine Gr.drew ?_ | refine Gr.drewN ?_ _ | refine Gr.trans ?_ (by with_reducible assumption))),by simp,by simp [go_sem],by simp [go_sem],by simp [go_sem],by simp [go_sem]⟩ ?_
 rintro W ⟨hgW,hsW,k0,k1,k2,k3⟩
 obtain⟨hcW,hfW⟩:=hgW.cells
 have hlW:w.heap.size<W.heap.size:=by omega
 have hmW:w.heap.size≤W.heap.size:=by omega
 go_region
 go_wp2_with (go_at_call 176;refine (HN.out _).mono ?_;rintro e w3 ⟨rfl,hg3⟩;obtain⟨hc3,hf3⟩:=hg3.cells;have hz3:=hg3.size;(try simp at hz3);(try have hl3_0_0:w.heap.size<w3.heap.size:=by omega);(try have hm3_0_0:w.heap.size≤w3.heap.size:=by omega);(try have hl3_0_1:w.heap.size+1<w3.heap.size:=by omega);(try have hl3_0_2:w.heap.size+2<w3.heap.size:=by omega);(try have hl3_1_0:w1.heap.size<w3.heap.size:=by omega);(try have hm3_1_0:w1.heap.size≤w3.heap.size:=by omega);(try have hl3_1_1:w1.heap.size+1<w3.heap.size:=by omega);(try have hl3_1_2:w1.heap.size+2<w3.heap.size:=by omega);(try have hl3_2_0:w2.heap.size<w3.heap.size:=by omega);(try have hm3_2_0:w2.heap.size≤w3.heap.size:=by omega);(try have hl3_2_1:w2.heap.size+1<w3.heap.size:=by omega);(try have hl3_2_2:w2.heap.size+2<w3.heap.size:=by omega))
 have t0:=hc3 w.heap.size 0 (by simp;omega)
 have t1:=hc3 w.heap.size 1 (by simp;omega)
 have t2:=hc3 w.heap.size 2 (by simp;omega)
 have t3:=hc3 w.heap.size 3 (by simp;omega)
 have t4:=hc3 w.heap.size 4 (by simp;omega)
 have t5:=hc3 w.heap.size 5 (by simp;omega)
 have t6:=hf3 w.heap.size 0 (by simp;omega)
 simp [go_sem,hlW,hcW] at t0 t1 t2 t3 t4 t5
 simp [go_sem,hlW,hfW] at t6
 simp [bodyPost,results,Tryz.results181,go_sem,t0,t1,t2,t3,t4,t5,t6]
 exact (by repeat (first | refine Gr.setCell ?_ (by first | omega | (simp;done) | (simp;omega)) _ | refine Gr.alloc ?_ _ | refine Gr.drew ?_ | refine Gr.drewN ?_ _ | with_reducible assumption | with_reducible exact Gr.refl _ | refine Gr.trans ?_ (by with_reducible assumption)))
end Go.Proofs.YtgbiodnfpbhjiaaGreatDoor.C19

namespace Go.Proofs.YtgbiodnfpbhjiaaGreatDoor
open Go.RowKit Go.Lib
set_option linter.unusedSimpArgs false
set_option linter.unusedVariables false
set_option maxRecDepth 100000 in
set_option maxHeartbeats 4000000 in
theorem parseE_plain (S:ByteArray) (b V E:Int) (w:World) (hE:E=1∨E=2) (hb:C19.isB b=true) (hS:S.size=11)
  (a0:48≤((S[0]'(by omega)).toNat:Int)∧((S[0]'(by omega)).toNat:Int)≤57) (a1:48≤((S[1]'(by omega)).toNat:Int)∧((S[1]'(by omega)).toNat:Int)≤57) (a3:48≤((S[3]'(by omega)).toNat:Int)∧((S[3]'(by omega)).toNat:Int)≤57) (a4:48≤((S[4]'(by omega)).toNat:Int)∧((S[4]'(by omega)).toNat:Int)≤57) (a6:48≤((S[6]'(by omega)).toNat:Int)∧((S[6]'(by omega)).toNat:Int)≤57) (a7:48≤((S[7]'(by omega)).toNat:Int)∧((S[7]'(by omega)).toNat:Int)≤57) (a9:48≤((S[9]'(by omega)).toNat:Int)∧((S[9]'(by omega)).toNat:Int)≤57) (a10:48≤((S[10]'(by omega)).toNat:Int)∧((S[10]'(by omega)).toNat:Int)≤57)
  (m2:((S[2]'(by omega)).toNat:Int)=58) (m5:((S[5]'(by omega)).toNat:Int)=58) (m8:((S[8]'(by omega)).toNat:Int)=58)
  (H:∀ w,Calls Tryz.prog 176 #[.agg #[.int .i64 ((((S[0]'(by omega)).toNat:Int) - 48) * 10+(((S[1]'(by omega)).toNat:Int) - 48)),.int .i64 ((((S[3]'(by omega)).toNat:Int) - 48) * 10+(((S[4]'(by omega)).toNat:Int) - 48)),.int .i64 ((((S[6]'(by omega)).toNat:Int) - 48) * 10+(((S[7]'(by omega)).toNat:Int) - 48)),.int .i64 ((((S[9]'(by omega)).toNat:Int) - 48) * 10+(((S[10]'(by omega)).toNat:Int) - 48)),.int .i64 b,.bool false]] w fun e w'=>e=.returned (.tuple #[.int .i64 V,.int .i64 E])∧Gr w w') :
  Calls Tryz.prog 181 #[.string S,.int .i64 b] w fun e w'=>e=.returned (.tuple #[.agg #[.int .i64 0,.int .i64 0,.int .i64 0,.int .i64 0,.int .i64 0,.bool false],.int .i64 E])∧Gr w w':=by
 have hE1:(E != 0)=true:=by rcases hE with rfl | rfl <;> rfl
 have HN:=Lib.hid H
 have HB:=Lib.hid (fun w=>hb ▸ C19.isBase_any b w)
 obtain⟨a0l,a0h⟩:=a0
 obtain⟨a1l,a1h⟩:=a1
 obtain⟨a3l,a3h⟩:=a3
 obtain⟨a4l,a4h⟩:=a4
 obtain⟨a6l,a6h⟩:=a6
 obtain⟨a7l,a7h⟩:=a7
 obtain⟨a9l,a9h⟩:=a9
 obtain⟨a10l,a10h⟩:=a10
 clear H hb hE
 go_enter Tryz.func181,Tryz.ntmps181
 go_wp2_with (go_at_call 77;refine (HB.out _).mono ?_;rintro e w' ⟨rfl,rfl⟩)
 refine wp_loop_rounds 5 ?_
 rw [rounds_succ]
 go_wp2
 go_quiet (fail)
 go_wp2
 rw [rounds_succ]
 go_wp2
 go_quiet (fail)
 go_wp2
 rw [rounds_succ]
 go_wp2
 go_quiet (fail)
 go_wp2
 rw [rounds_succ]
 go_wp2
 go_quiet (fail)
 go_wp2
 rw [rounds_succ]
 go_wp2
 refine C19.wp_gen (R:=fun W=>Gr (w.alloc (.cells #[.int .i64 0,.int .i64 0,.int .i64 0,.int .i64 0,.int .i64 0,.bool false] 153)) W∧w.heap.size+1<W.heap.size∧W.cell? ⟨w.heap.size+1,0,none⟩=some (.int .i64 ((((S[0]'(by omega)).toNat:Int) - 48) * 10+(((S[1]'(by omega)).toNat:Int) - 48)))∧W.cell? ⟨w.heap.size+1,1,none⟩=some (.int .i64 ((((S[3]'(by omega)).toNat:Int) - 48) * 10+(((S[4]'(by omega)).toNat:Int) - 48)))∧W.cell? ⟨w.heap.size+1,2,none⟩=some (.int .i64 ((((S[6]'(by omega)).toNat:Int) - 48) * 10+(((S[7]'(by omega)).toNat:Int) - 48)))∧W.cell? ⟨w.heap.size+1,3,none⟩=some (.int .i64 ((((S[9]'(by omega)).toNat:Int) - 48) * 10+(((S[10]'(by omega)).toNat:Int) - 48)))) ⟨(by repeat (first | with_reducible exact Gr.refl _ | with_reducible assumption | refine Gr.setCell ?_ (by first | omega | (simp;done) | (simp;omega)) _ | refine Gr.alloc ?_ _ | refine Gr.drew ?_ | refine Gr.drewN ?_ _ | refine Gr.trans ?_ (by with_reducible assumption))),by simp,by simp [go_sem],by simp [go_sem],by simp [go_sem],by simp [go_sem]⟩ ?_
 rintro W ⟨hgW,hsW,k0,k1,k2,k3⟩
 obtain⟨hcW,hfW⟩:=hgW.cells
 have hlW:w.heap.size<W.heap.size:=by omega
 have hmW:w.heap.size≤W.heap.size:=by omega
 go_region
 go_wp2_with (go_at_call 176;refine (HN.out _).mono ?_;rintro e w3 ⟨rfl,hg3⟩;obtain⟨hc3,hf3⟩:=hg3.cells;have hz3:=hg3.size;(try simp at hz3);(try have hl3_0_0:w.heap.size<w3.heap.size:=by omega);(try have hm3_0_0:w.heap.size≤w3.heap.size:=by omega);(try have hl3_0_1:w.heap.size+1<w3.heap.size:=by omega);(try have hl3_0_2:w.heap.size+2<w3.heap.size:=by omega);(try have hl3_1_0:w1.heap.size<w3.heap.size:=by omega);(try have hm3_1_0:w1.heap.size≤w3.heap.size:=by omega);(try have hl3_1_1:w1.heap.size+1<w3.heap.size:=by omega);(try have hl3_1_2:w1.heap.size+2<w3.heap.size:=by omega);(try have hl3_2_0:w2.heap.size<w3.heap.size:=by omega);(try have hm3_2_0:w2.heap.size≤w3.heap.size:=by omega);(try have hl3_2_1:w2.heap.size+1<w3.heap.size:=by omega);(try have hl3_2_2:w2.heap.size+2<w3.heap.size:=by omega))
 have t0:=hc3 w.heap.size 0 (by simp;omega)
 have t1:=hc3 w.heap.size 1 (by simp;omega)
 have t2:=hc3 w.heap.size 2 (by simp;omega)
 have t3:=hc3 w.heap.size 3 (by simp;omega)
 have t4:=hc3 w.heap.size 4 (by simp;omega)
 have t5:=hc3 w.heap.size 5 (by simp;omega)
 have t6:=hf3 w.heap.size 0 (by simp;omega)
 simp [go_sem,hlW,hcW] at t0 t1 t2 t3 t4 t5
 simp [go_sem,hlW,hfW] at t6
 simp [bodyPost,results,Tryz.results181,go_sem,t0,t1,t2,t3,t4,t5,t6]
 exact (by repeat (first | refine Gr.setCell ?_ (by first | omega | (simp;done) | (simp;omega)) _ | refine Gr.alloc ?_ _ | refine Gr.drew ?_ | refine Gr.drewN ?_ _ | with_reducible assumption | with_reducible exact Gr.refl _ | refine Gr.trans ?_ (by with_reducible assumption)))
set_option maxRecDepth 100000 in
set_option maxHeartbeats 4000000 in
theorem parseE_drop (S:ByteArray) (b V E:Int) (w:World) (hE:E=1∨E=2) (hb:C19.isB b=true) (hS:S.size=11)
  (a0:48≤((S[0]'(by omega)).toNat:Int)∧((S[0]'(by omega)).toNat:Int)≤57) (a1:48≤((S[1]'(by omega)).toNat:Int)∧((S[1]'(by omega)).toNat:Int)≤57) (a3:48≤((S[3]'(by omega)).toNat:Int)∧((S[3]'(by omega)).toNat:Int)≤57) (a4:48≤((S[4]'(by omega)).toNat:Int)∧((S[4]'(by omega)).toNat:Int)≤57) (a6:48≤((S[6]'(by omega)).toNat:Int)∧((S[6]'(by omega)).toNat:Int)≤57) (a7:48≤((S[7]'(by omega)).toNat:Int)∧((S[7]'(by omega)).toNat:Int)≤57) (a9:48≤((S[9]'(by omega)).toNat:Int)∧((S[9]'(by omega)).toNat:Int)≤57) (a10:48≤((S[10]'(by omega)).toNat:Int)∧((S[10]'(by omega)).toNat:Int)≤57)
  (m2:((S[2]'(by omega)).toNat:Int)=58) (m5:((S[5]'(by omega)).toNat:Int)=58) (m8:((S[8]'(by omega)).toNat:Int)=59)
  (H:∀ w,Calls Tryz.prog 176 #[.agg #[.int .i64 ((((S[0]'(by omega)).toNat:Int) - 48) * 10+(((S[1]'(by omega)).toNat:Int) - 48)),.int .i64 ((((S[3]'(by omega)).toNat:Int) - 48) * 10+(((S[4]'(by omega)).toNat:Int) - 48)),.int .i64 ((((S[6]'(by omega)).toNat:Int) - 48) * 10+(((S[7]'(by omega)).toNat:Int) - 48)),.int .i64 ((((S[9]'(by omega)).toNat:Int) - 48) * 10+(((S[10]'(by omega)).toNat:Int) - 48)),.int .i64 b,.bool true]] w fun e w'=>e=.returned (.tuple #[.int .i64 V,.int .i64 E])∧Gr w w') :
  Calls Tryz.prog 181 #[.string S,.int .i64 b] w fun e w'=>e=.returned (.tuple #[.agg #[.int .i64 0,.int .i64 0,.int .i64 0,.int .i64 0,.int .i64 0,.bool false],.int .i64 E])∧Gr w w':=by
 have hE1:(E != 0)=true:=by rcases hE with rfl | rfl <;> rfl
 have HN:=Lib.hid H
 have HB:=Lib.hid (fun w=>hb ▸ C19.isBase_any b w)
 obtain⟨a0l,a0h⟩:=a0
 obtain⟨a1l,a1h⟩:=a1
 obtain⟨a3l,a3h⟩:=a3
 obtain⟨a4l,a4h⟩:=a4
 obtain⟨a6l,a6h⟩:=a6
 obtain⟨a7l,a7h⟩:=a7
 obtain⟨a9l,a9h⟩:=a9
 obtain⟨a10l,a10h⟩:=a10
 clear H hb hE
 go_enter Tryz.func181,Tryz.ntmps181
 go_wp2_with (go_at_call 77;refine (HB.out _).mono ?_;rintro e w' ⟨rfl,rfl⟩)
 refine wp_loop_rounds 5 ?_
 rw [rounds_succ]
 go_wp2
 go_quiet (fail)
 go_wp2
 rw [rounds_succ]
 go_wp2
 go_quiet (fail)
 go_wp2
 rw [rounds_succ]
 go_wp2
 go_quiet (fail)
 go_wp2
 rw [rounds_succ]
 go_wp2
 go_quiet (fail)
 go_wp2
 rw [rounds_succ]
 go_wp2
 refine C19.wp_gen (R:=fun W=>Gr (w.alloc (.cells #[.int .i64 0,.int .i64 0,.int .i64 0,.int .i64 0,.int .i64 0,.bool false] 153)) W∧w.heap.size+1<W.heap.size∧W.cell? ⟨w.heap.size+1,0,none⟩=some (.int .i64 ((((S[0]'(by omega)).toNat:Int) - 48) * 10+(((S[1]'(by omega)).toNat:Int) - 48)))∧W.cell? ⟨w.heap.size+1,1,none⟩=some (.int .i64 ((((S[3]'(by omega)).toNat:Int) - 48) * 10+(((S[4]'(by omega)).toNat:Int) - 48)))∧W.cell? ⟨w.heap.size+1,2,none⟩=some (.int .i64 ((((S[6]'(by omega)).toNat:Int) - 48) * 10+(((S[7]'(by omega)).toNat:Int) - 48)))∧W.cell? ⟨w.heap.size+1,3,none⟩=some (.int .i64 ((((S[9]'(by omega)).toNat:Int) - 48) * 10+(((S[10]'(by omega)).toNat:Int) - 48)))) ⟨(by repeat (first | with_reducible exact Gr.refl _ | with_reducible assumption | refine Gr.setCell ?_ (by first | omega | (simp;done) | (simp;omega)) _ | refine Gr.alloc ?_ _ | refine Gr.drew ?_ | refine Gr.drewN ?_ _ | refine Gr.trans ?_ (by with_reducible assumption))),by simp,by simp [go_sem],by simp [go_sem],by simp [go_sem],by simp [go_sem]⟩ ?_
 rintro W ⟨hgW,hsW,k0,k1,k2,k3⟩
 obtain⟨hcW,hfW⟩:=hgW.cells
 have hlW:w.heap.size<W.heap.size:=by omega
 have hmW:w.heap.size≤W.heap.size:=by omega
 go_region
 go_wp2_with (go_at_call 176;refine (HN.out _).mono ?_;rintro e w3 ⟨rfl,hg3⟩;obtain⟨hc3,hf3⟩:=hg3.cells;have hz3:=hg3.size;(try simp at hz3);(try have hl3_0_0:w.heap.size<w3.heap.size:=by omega);(try have hm3_0_0:w.heap.size≤w3.heap.size:=by omega);(try have hl3_0_1:w.heap.size+1<w3.heap.size:=by omega);(try have hl3_0_2:w.heap.size+2<w3.heap.size:=by omega);(try have hl3_1_0:w1.heap.size<w3.heap.size:=by omega);(try have hm3_1_0:w1.heap.size≤w3.heap.size:=by omega);(try have hl3_1_1:w1.heap.size+1<w3.heap.size:=by omega);(try have hl3_1_2:w1.heap.size+2<w3.heap.size:=by omega);(try have hl3_2_0:w2.heap.size<w3.heap.size:=by omega);(try have hm3_2_0:w2.heap.size≤w3.heap.size:=by omega);(try have hl3_2_1:w2.heap.size+1<w3.heap.size:=by omega);(try have hl3_2_2:w2.heap.size+2<w3.heap.size:=by omega))
 have t0:=hc3 w.heap.size 0 (by simp;omega)
 have t1:=hc3 w.heap.size 1 (by simp;omega)
 have t2:=hc3 w.heap.size 2 (by simp;omega)
 have t3:=hc3 w.heap.size 3 (by simp;omega)
 have t4:=hc3 w.heap.size 4 (by simp;omega)
 have t5:=hc3 w.heap.size 5 (by simp;omega)
 have t6:=hf3 w.heap.size 0 (by simp;omega)
 simp [go_sem,hlW,hcW] at t0 t1 t2 t3 t4 t5
 simp [go_sem,hlW,hfW] at t6
 simp [bodyPost,results,Tryz.results181,go_sem,t0,t1,t2,t3,t4,t5,t6]
 exact (by repeat (first | refine Gr.setCell ?_ (by first | omega | (simp;done) | (simp;omega)) _ | refine Gr.alloc ?_ _ | refine Gr.drew ?_ | refine Gr.drewN ?_ _ | with_reducible assumption | with_reducible exact Gr.refl _ | refine Gr.trans ?_ (by with_reducible assumption)))
end Go.Proofs.YtgbiodnfpbhjiaaGreatDoor
