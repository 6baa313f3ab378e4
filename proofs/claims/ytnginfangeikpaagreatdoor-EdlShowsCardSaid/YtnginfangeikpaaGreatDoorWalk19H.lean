/-
  Contract of Number of the reference.
  Conditions: the arguments are integers of their kinds.
-/
import Derived.Test.YtnginfangeikpaaGreatDoorWalk19F
import Derived.Test.YtnginfangeikpaaGreatDoorWalk19A
namespace Go.Proofs.YtnginfangeikpaaGreatDoor.C19
open Go.RowKit
set_option linter.unusedSimpArgs false
set_option linter.unusedVariables false
theorem new2 {w:World} {a b:Value} {t:TypeId}:∀ j u,([a,b]:List Value)[j]?=some u→(w.alloc (.cells #[a,b] t)).cell? ((⟨w.heap.size,0,none⟩:Addr).add j)=some u:=by
 intro j u hj
 match j,hj with
 | 0,hj=>simp at hj;subst hj;simp [Addr.add]
 | 1,hj=>simp at hj;subst hj;simp [Addr.add]
 | n+2,hj=>simp at hj
theorem new1 {w:World} {a:Value} {t:TypeId}:∀ j u,([a]:List Value)[j]?=some u→(w.alloc (.cells #[a] t)).cell? ((⟨w.heap.size,0,none⟩:Addr).add j)=some u:=by
 intro j u hj
 match j,hj with
 | 0,hj=>simp at hj;subst hj;simp [Addr.add]
 | n+1,hj=>simp at hj
theorem Gr.grown {a w w':World} {row:Option Nat} (h:Gr a w) (hg:w.grownBy w' row) (hr:∀ k,row=some k→a.heap.size≤k):Gr a w':=Below.grown h hg h.size hr
set_option maxRecDepth 20000 in
set_option maxHeartbeats 1000000 in
theorem format_yes (h m s f b V:Int) (d:Bool) (w:World) (h1:0≤h∧h<60) (h2:0≤m∧m<60) (h3:0≤s∧s<60) (h4:0≤f∧f<60)
  (H:∀ w,Calls Tryz.prog 132 #[.agg #[.int .i64 h,.int .i64 m,.int .i64 s,.int .i64 f,.int .i64 b,.bool d]] w fun e w'=>e=.returned (.tuple #[.int .i64 V,.int .i64 0])∧Gr w w') :
  Calls Tryz.prog 112 #[.agg #[.int .i64 h,.int .i64 m,.int .i64 s,.int .i64 f,.int .i64 b,.bool d]] w fun e w'=>e=.returned (.tuple #[.string (fmtS h m s f d),.int .i64 0])∧Gr w w':=by
 have HN:=Lib.hid H
 clear H
 obtain⟨i0,hi,hy0,hy1,hy2⟩:=info_parts infoU8
 have x0:∀ w,(Instr.index 207 (.agg #[.int .i64 h,.int .i64 m,.int .i64 s,.int .i64 f]) (.int .i64 0)).run Tryz.prog w=.ok (.int .i64 h) w:=fun _=>by kernel_rfl
 have x1:∀ w,(Instr.index 207 (.agg #[.int .i64 h,.int .i64 m,.int .i64 s,.int .i64 f]) (.int .i64 1)).run Tryz.prog w=.ok (.int .i64 m) w:=fun _=>by kernel_rfl
 have x2:∀ w,(Instr.index 207 (.agg #[.int .i64 h,.int .i64 m,.int .i64 s,.int .i64 f]) (.int .i64 2)).run Tryz.prog w=.ok (.int .i64 s) w:=fun _=>by kernel_rfl
 have x3:∀ w,(Instr.index 207 (.agg #[.int .i64 h,.int .i64 m,.int .i64 s,.int .i64 f]) (.int .i64 3)).run Tryz.prog w=.ok (.int .i64 f) w:=fun _=>by kernel_rfl
 go_enter Tryz.func112,Tryz.ntmps112
 go_wp2_with (first
  | (go_at_call 132;refine (HN.out _).mono ?_;rintro e w1 ⟨rfl,hg1⟩;obtain⟨hc1,hf1⟩:=hg1.cells;have hz1:=hg1.size;(try simp at hz1);(try have hl1_0_0:w.heap.size<w1.heap.size:=by omega);(try have hm1_0_0:w.heap.size≤w1.heap.size:=by omega);(try have hl1_0_1:w.heap.size+1<w1.heap.size:=by omega);(try have hl1_0_2:w.heap.size+2<w1.heap.size:=by omega))
  | (at_make;go_loud (refine wpList_make_own _ rfl _ _ 114 rfl (w.heap.size+1) 5 i0 (.int .u8 0) 1 (by kernel_rfl) hi hy0 hy1 .i64 .i64 11 11 rfl rfl rfl (by rw [hy2];decide) (by decide) (by omega) ?_);intro w2 hown2 hgrow2;have hg2:=Gr.grown hg1 hgrow2 (fun k hk=>by cases hk);obtain⟨hc2,hf2⟩:=hg2.cells;have hz2':=hg2.size;simp at hz2';have hl2:w.heap.size<w2.heap.size:=by omega))
 go_loopw [6,27] (fun v i wr=>∃ k:Nat,k≤4∧i=.int .i64 k∧v=.slice (some ⟨w1.heap.size,0,none⟩) (3 * k - 1) 11∧wr.ownsRow (w.heap.size+1) 5 1 v (3 * k - 1) (((fmtL h m s f d).take (3 * k - 1)).map (Value.int .u8)) ∧
  Gr (w.alloc (.cells #[.int .i64 h,.int .i64 m,.int .i64 s,.int .i64 f,.int .i64 b,.bool d] 183)) wr) (fun _ i _=>4 - (intOf i).toNat)
 case atStart=>exact⟨0,by omega,rfl,rfl,hown2,hg2⟩
 case round=>
  obtain⟨k,hk,rfl,rfl,hown,hg⟩:=hrel
  obtain⟨hc,hf⟩:=hg.cells
  have hz:=hg.size
  simp at hz
  have hl:w.heap.size<wr.heap.size:=by omega
  clear hown2 hgrow2 hg2 hc2 hf2 hz2' hl2 HN
  rcases (show k=0∨k=1∨k=2∨k=3∨k=4 by omega) with rfl | rfl | rfl | rfl | rfl
  ·replace hown:wr.ownsRow (w.heap.size+1) 5 1 (.slice (some ⟨w1.heap.size,0,none⟩) 0 11) 0 []:=hown
   go_wp2_with (at_builtin;refine wpList_append_fits _ rfl (.tmp 45) (.tmp 54) 114 rfl (w.heap.size+1) 5 i0 1 (by kernel_rfl) hi hy1 w1.heap.size 0 11 [] rfl (hown.alloc _) ⟨wr.heap.size,0,none⟩ 2 2 [.int .u8 (48+h / 10),.int .u8 (48+h % 10)] rfl rfl new2 (by intro u hu;simp at hu;rcases hu with rfl | rfl <;> rfl) (by decide) ?_;intro w3 hown3 hgrow3)
   have hg3:=Gr.grown (hg.alloc (.cells #[.int .u8 (48+h / 10),.int .u8 (48+h % 10)] 5)) hgrow3 (fun k hk=>by cases hk;simp;omega)
   exact⟨⟨1,by omega,rfl,rfl,hown3,hg3⟩,by simp [intOf]⟩
  ·replace hown:wr.ownsRow (w.heap.size+1) 5 1 (.slice (some ⟨w1.heap.size,0,none⟩) 2 11) 2 [.int .u8 (48+h / 10),.int .u8 (48+h % 10)]:=hown
   go_wp2_with (first
    | (at_builtin;refine wpList_append_fits _ rfl (.tmp 42) (.tmp 43) 114 rfl (w.heap.size+1) 5 i0 1 (by kernel_rfl) hi hy1 w1.heap.size 2 11 [.int .u8 (48+h / 10),.int .u8 (48+h % 10)] rfl (hown.alloc _) ⟨wr.heap.size,0,none⟩ 1 1 [.int .u8 58] rfl rfl new1 (by intro u hu;simp at hu;subst hu;rfl) (by decide) ?_;intro w3 hown3 hgrow3)
    | (at_builtin;refine wpList_append_fits _ rfl (.tmp 45) (.tmp 54) 114 rfl (w.heap.size+1) 5 i0 1 (by kernel_rfl) hi hy1 w1.heap.size 3 11 _ rfl (hown3.alloc _) ⟨w3.heap.size,0,none⟩ 2 2 [.int .u8 (48+m / 10),.int .u8 (48+m % 10)] rfl rfl new2 (by intro u hu;simp at hu;rcases hu with rfl | rfl <;> rfl) (by decide) ?_;intro w4 hown4 hgrow4))
   have hg3:=Gr.grown (hg.alloc (.cells #[.int .u8 58] 5)) hgrow3 (fun k hk=>by cases hk;simp;omega)
   have hg4:=Gr.grown (hg3.alloc (.cells #[.int .u8 (48+m / 10),.int .u8 (48+m % 10)] 5)) hgrow4 (fun k hk=>by cases hk;simp;omega)
   exact⟨⟨2,by omega,rfl,rfl,hown4,hg4⟩,by simp [intOf]⟩
  ·replace hown:wr.ownsRow (w.heap.size+1) 5 1 (.slice (some ⟨w1.heap.size,0,none⟩) 5 11) 5 [.int .u8 (48+h / 10),.int .u8 (48+h % 10),.int .u8 58,.int .u8 (48+m / 10),.int .u8 (48+m % 10)]:=hown
   go_wp2_with (first
    | (at_builtin;refine wpList_append_fits _ rfl (.tmp 42) (.tmp 43) 114 rfl (w.heap.size+1) 5 i0 1 (by kernel_rfl) hi hy1 w1.heap.size 5 11 [.int .u8 (48+h / 10),.int .u8 (48+h % 10),.int .u8 58,.int .u8 (48+m / 10),.int .u8 (48+m % 10)] rfl (hown.alloc _) ⟨wr.heap.size,0,none⟩ 1 1 [.int .u8 58] rfl rfl new1 (by intro u hu;simp at hu;subst hu;rfl) (by decide) ?_;intro w3 hown3 hgrow3)
    | (at_builtin;refine wpList_append_fits _ rfl (.tmp 45) (.tmp 54) 114 rfl (w.heap.size+1) 5 i0 1 (by kernel_rfl) hi hy1 w1.heap.size 6 11 _ rfl (hown3.alloc _) ⟨w3.heap.size,0,none⟩ 2 2 [.int .u8 (48+s / 10),.int .u8 (48+s % 10)] rfl rfl new2 (by intro u hu;simp at hu;rcases hu with rfl | rfl <;> rfl) (by decide) ?_;intro w4 hown4 hgrow4))
   have hg3:=Gr.grown (hg.alloc (.cells #[.int .u8 58] 5)) hgrow3 (fun k hk=>by cases hk;simp;omega)
   have hg4:=Gr.grown (hg3.alloc (.cells #[.int .u8 (48+s / 10),.int .u8 (48+s % 10)] 5)) hgrow4 (fun k hk=>by cases hk;simp;omega)
   exact⟨⟨3,by omega,rfl,rfl,hown4,hg4⟩,by simp [intOf]⟩
  ·cases d
   ·replace hown:wr.ownsRow (w.heap.size+1) 5 1 (.slice (some ⟨w1.heap.size,0,none⟩) 8 11) 8 [.int .u8 (48+h / 10),.int .u8 (48+h % 10),.int .u8 58,.int .u8 (48+m / 10),.int .u8 (48+m % 10),.int .u8 58,.int .u8 (48+s / 10),.int .u8 (48+s % 10)]:=hown
    go_wp2_with (first
     | (at_builtin;refine wpList_append_fits _ rfl (.tmp 42) (.tmp 43) 114 rfl (w.heap.size+1) 5 i0 1 (by kernel_rfl) hi hy1 w1.heap.size 8 11 [.int .u8 (48+h / 10),.int .u8 (48+h % 10),.int .u8 58,.int .u8 (48+m / 10),.int .u8 (48+m % 10),.int .u8 58,.int .u8 (48+s / 10),.int .u8 (48+s % 10)] rfl (hown.alloc _) ⟨wr.heap.size,0,none⟩ 1 1 [.int .u8 58] rfl rfl new1 (by intro u hu;simp at hu;subst hu;rfl) (by decide) ?_;intro w3 hown3 hgrow3)
     | (at_builtin;refine wpList_append_fits _ rfl (.tmp 45) (.tmp 54) 114 rfl (w.heap.size+1) 5 i0 1 (by kernel_rfl) hi hy1 w1.heap.size 9 11 _ rfl (hown3.alloc _) ⟨w3.heap.size,0,none⟩ 2 2 [.int .u8 (48+f / 10),.int .u8 (48+f % 10)] rfl rfl new2 (by intro u hu;simp at hu;rcases hu with rfl | rfl <;> rfl) (by decide) ?_;intro w4 hown4 hgrow4))
    have hg3:=Gr.grown (hg.alloc (.cells #[.int .u8 58] 5)) hgrow3 (fun k hk=>by cases hk;simp;omega)
    have hg4:=Gr.grown (hg3.alloc (.cells #[.int .u8 (48+f / 10),.int .u8 (48+f % 10)] 5)) hgrow4 (fun k hk=>by cases hk;simp;omega)
    exact⟨⟨4,by omega,rfl,rfl,hown4,hg4⟩,by simp [intOf]⟩
   ·replace hown:wr.ownsRow (w.heap.size+1) 5 1 (.slice (some ⟨w1.heap.size,0,none⟩) 8 11) 8 [.int .u8 (48+h / 10),.int .u8 (48+h % 10),.int .u8 58,.int .u8 (48+m / 10),.int .u8 (48+m % 10),.int .u8 58,.int .u8 (48+s / 10),.int .u8 (48+s % 10)]:=hown
    go_wp2_with (first
     | (at_builtin;refine wpList_append_fits _ rfl (.tmp 37) (.tmp 38) 114 rfl (w.heap.size+1) 5 i0 1 (by kernel_rfl) hi hy1 w1.heap.size 8 11 [.int .u8 (48+h / 10),.int .u8 (48+h % 10),.int .u8 58,.int .u8 (48+m / 10),.int .u8 (48+m % 10),.int .u8 58,.int .u8 (48+s / 10),.int .u8 (48+s % 10)] rfl (hown.alloc _) ⟨wr.heap.size,0,none⟩ 1 1 [.int .u8 59] rfl rfl new1 (by intro u hu;simp at hu;subst hu;rfl) (by decide) ?_;intro w3 hown3 hgrow3)
     | (at_builtin;refine wpList_append_fits _ rfl (.tmp 45) (.tmp 54) 114 rfl (w.heap.size+1) 5 i0 1 (by kernel_rfl) hi hy1 w1.heap.size 9 11 _ rfl (hown3.alloc _) ⟨w3.heap.size,0,none⟩ 2 2 [.int .u8 (48+f / 10),.int .u8 (48+f % 10)] rfl rfl new2 (by intro u hu;simp at hu;rcases hu with rfl | rfl <;> rfl) (by decide) ?_;intro w4 hown4 hgrow4))
    have hg3:=Gr.grown (hg.alloc (.cells #[.int .u8 59] 5)) hgrow3 (fun k hk=>by cases hk;simp;omega)
    have hg4:=Gr.grown (hg3.alloc (.cells #[.int .u8 (48+f / 10),.int .u8 (48+f % 10)] 5)) hgrow4 (fun k hk=>by cases hk;simp;omega)
    exact⟨⟨4,by omega,rfl,rfl,hown4,hg4⟩,by simp [intOf]⟩
  ·have hv:=format_conv (fmtL h m s f d) (fmt_small h1 h2 h3 h4) wr _ w1.heap.size 11 11 rfl hown
   have HS:Hid (fmtS h m s f d=⟨((fmtL h m s f d).map fun x=>UInt8.ofNat x.toNat).toArray⟩):=rfl
   go_wp2
   simp [bodyPost,results,Tryz.results112,go_sem,hc,hf]
   exact⟨rfl,(by repeat (first | refine Gr.setCell ?_ (by first | omega | (simp;done) | (simp;omega)) _ | refine Gr.alloc ?_ _ | refine Gr.drew ?_ | refine Gr.drewN ?_ _ | with_reducible assumption | with_reducible exact Gr.refl _ | refine Gr.trans ?_ (by with_reducible assumption)))⟩
def before (k:Nat) (b:Int):Prop:=(b=24∧0<k)∨(b=25∧1<k)∨(b=30∧2<k)∨(b=48∧3<k)∨(b=50∧4<k)∨(b=60∧5<k)
theorem number_any (h m s f b:Int) (d:Bool) (w:World) :
  Calls Tryz.prog 132 #[.agg #[.int .i64 h,.int .i64 m,.int .i64 s,.int .i64 f,.int .i64 b,.bool d]] w fun e w'=>e=.returned (.tuple #[.int .i64 (nmV h m s f b d),.int .i64 (nmE h m s f b d)])∧Gr w w':=by
 by_cases ho:okB b d=true
 ·by_cases hi:inN h m s f b=true
  ·exact number_in h m s f b d w ho hi
  ·have hi:inN h m s f b=false:=by simpa using hi
   have e1:nmV h m s f b d=0:=by unfold nmV;rw [ho,hi];rfl
   have e2:nmE h m s f b d=2:=by unfold nmE;rw [ho,hi];rfl
   rw [e1,e2]
   exact number_out h m s f b d w ho hi
 ·have ho:okB b d=false:=by simpa using ho
  have e1:nmV h m s f b d=0:=by unfold nmV;rw [ho];rfl
  have e2:nmE h m s f b d=1:=by unfold nmE;rw [ho];rfl
  rw [e1,e2]
  exact number_no h m s f b d w ho
theorem nmE_cases (h m s f b:Int) (d:Bool):(nmE h m s f b d=0∧okB b d=true∧inN h m s f b=true∧miss h m s f b d=false∧nmV h m s f b d=numN h m s f b d)∨((nmE h m s f b d=1∨nmE h m s f b d=2)∧nmV h m s f b d=0):=by
 unfold nmE nmV
 cases okB b d <;> cases inN h m s f b <;> cases miss h m s f b d <;> simp
def fmV (h m s f b:Int) (d:Bool):ByteArray:=if nmE h m s f b d=0 then fmtS h m s f d else ByteArray.empty
theorem format_any (h m s f b:Int) (d:Bool) (w:World) :
  Calls Tryz.prog 112 #[.agg #[.int .i64 h,.int .i64 m,.int .i64 s,.int .i64 f,.int .i64 b,.bool d]] w fun e w'=>e=.returned (.tuple #[.string (fmV h m s f b d),.int .i64 (nmE h m s f b d)])∧Gr w w':=by
 have H:=fun w=>number_any h m s f b d w
 unfold fmV
 rcases nmE_cases h m s f b d with ⟨e0,ho,hi,hm,e1⟩ | ⟨e0,e1⟩
 ·obtain⟨p1,p2,p3,p4⟩:=inN_out hi
  have hb:=okB_bounds ho
  rw [e0] at H ⊢
  exact format_yes h m s f b _ d w (by omega) (by omega) (by omega) (by omega) H
 ·rw [e1] at H
  rw [if_neg (by omega)]
  exact format_no h m s f b d _ w e0 H
theorem label_num {r b:Int} {d:Bool} (ho:okB b d=true) (h0:0≤r) (h1:r<dayN b d) :
  inN (rMin r b d / 60) (rMin r b d % 60) (rFrm r b d / b) (rFrm r b d % b) b=true∧miss (rMin r b d / 60) (rMin r b d % 60) (rFrm r b d / b) (rFrm r b d % b) b d=false ∧
  numN (rMin r b d / 60) (rMin r b d % 60) (rFrm r b d / b) (rFrm r b d % b) b d=r:=by
 obtain⟨l1,l2,l3,l4⟩:=r_bounds ho h0 h1
 have hb:=okB_bounds ho
 have eM:60 * (rMin r b d / 60)+rMin r b d % 60=rMin r b d:=by omega
 have f1:0≤rFrm r b d / b:=Int.ediv_nonneg l3 (by omega)
 have f2:rFrm r b d / b<60:=Int.ediv_lt_of_lt_mul (by omega) (by omega)
 have f3:0≤rFrm r b d % b:=Int.emod_nonneg _ (by omega)
 have f4:rFrm r b d % b<b:=Int.emod_lt_of_pos _ (by omega)
 have eF:rFrm r b d / b * b+rFrm r b d % b=rFrm r b d:=by rw [Int.mul_comm];exact Int.mul_ediv_add_emod _ _
 have key:dm (rMin r b d) b d≤rFrm r b d∧60 * (b * rMin r b d)+rFrm r b d - drp b d * (rMin r b d - rMin r b d / 10)=r:=by
  clear eM f1 f2 f3 f4 eF
  unfold rMin rFrm dayN dm at *
  rcases okB_cases ho with ⟨rfl,rfl⟩ | ⟨rfl,rfl⟩ | ⟨rfl,rfl⟩ | ⟨rfl,rfl⟩ | ⟨rfl,rfl⟩ | ⟨rfl,rfl⟩ | ⟨rfl,rfl⟩ | ⟨rfl,rfl⟩ <;> simp only [drp,if_true,Bool.false_eq_true,if_false] at * <;> split <;> (try split) <;> (try constructor) <;> omega
 refine⟨?_,?_,?_⟩
 ·unfold inN wi
  have:(0≤rMin r b d / 60∧rMin r b d / 60<24)∧(0≤rMin r b d % 60∧rMin r b d % 60<60):=by omega
  simp [this.1.1,this.1.2,this.2.1,this.2.2,f1,f2,f3,f4]
 ·unfold miss
  rw [eM]
  refine decide_eq_false fun ⟨x,y⟩=>?_
  rw [x,Int.zero_mul,Int.zero_add] at eF
  omega
 ·unfold numN
  rw [eM,eF]
  exact key.2
end Go.Proofs.YtnginfangeikpaaGreatDoor.C19
