/-
  A pure operation under a guard, in a drawn region whose pure operations come first.
  Conditions: none.
-/
import Derived.Test.YtgbiodnfpbhjiaaGreatDoorKit
import Derived.Test.YtgbiodnfpbhjiaaGreatDoorWalkOfA
import Derived.Deep.CutBlock
import Derived.Test.YtgbiodnfpbhjiaaGreatDoorMathFb
import Derived.Test.YtgbiodnfpbhjiaaGreatDoorWalkTm
import Derived.Test.YtgbiodnfpbhjiaaGreatDoorWalkEg
import Derived.Deep.DeepCutAuto
namespace Go.Proofs.YtgbiodnfpbhjiaaGreatDoor
open Go.RowKit
set_option linter.unusedVariables false
section
variable {P:Program} {ops:Array Oper} {md:Region.Mode} {Q:Exit→Act→World→Prop}
def PureG (P:Program) (ops:Array Oper) (S:World→Prop) (o:Oper) (v:Value) (a:Act):Prop:=
 (Region.wanted o (yielded ops a.tmps)=true∧∀ w,S w→(execOp a.eval o).run P w=.ok (.value v) w)∨(Region.wanted o (yielded ops a.tmps)=false∧v=undef)
theorem PureG.wpOp {S:World→Prop} {i:Nat} {o:Oper} {v:Value} {a:Act} {w:World} {K:Act→World→Prop} (hi:ops[i]?=some o) (h:PureG P ops S o v a) (hw:S w) (hK:K (a.put o.dst v) w):wpOp P ops Q i K a w:=by
 unfold Go.wpOp
 simp only [hi]
 rcases h with ⟨h1,h2⟩ | ⟨h1,rfl⟩
 ·rw [h1]
  simp only [if_true]
  refine .inl ?_
  unfold Oper.wp
  rw [h2 w hw]
  exact hK
 ·rw [h1]
  simpa using hK
theorem PureG.of_same {S:World→Prop} {o:Oper} {v:Value} {a a':Act} (hy:PureG P ops S o v a) (he:execOp a'.eval o=execOp a.eval o)
  (hw:Region.wanted o (yielded ops a'.tmps)=Region.wanted o (yielded ops a.tmps)):PureG P ops S o v a':=by
 unfold PureG at *
 rw [he,hw]
 exact hy
theorem wpOp_putG {S:World→Prop} {K0:Act→World→Prop} {j:Nat} {oi oj:Oper} {v:Value} (hj:ops[j]?=some oj) (hap:oi.apart ops oj=true)
  (hsi:∀ cs b,oi.op≠.select cs b) (hsj:∀ cs b,oj.op≠.select cs b) {K:Act→World→Prop} {a:Act} {w:World}
  (hy:PureG P ops S oi v a) (h:wpOp P ops (only K0) j K (a.put oi.dst v) w) :
  wpOp P ops (only K0) j (fun a' w'=>PureG P ops S oi v a'∧K (a'.put oi.dst v) w') a w:=by
 obtain⟨h1,h2,h3⟩:=Oper.apart_spec hap
 have keep:∀ (a:Act),PureG P ops S oi v a→∀ u,PureG P ops S oi v (a.put oj.dst u):=fun a hy u=>
  hy.of_same (execOp_put oi hsi a oj.dst u h3) (wanted_put oi a oj.dst u h3)
 have keepD:∀ d,PureG P ops S oi v { a with defers:=d :: a.defers }:=fun d=>hy.of_same rfl rfl
 unfold wpOp at *
 simp only [hj] at *
 rw [wanted_put oj a oi.dst v h1] at h
 split
 ·rename_i hw
  simp only [hw,if_true] at h
  rcases h with h | ⟨hasks,hlets⟩
  case inr=>exact (letsOut_only hlets).elim
  refine .inl ?_
  unfold Oper.wp at *
  rw [execOp_put oj hsj a oi.dst v h1] at h
  generalize (execOp a.eval oj).run P w=r at *
  cases r with
  | ok n w'=>
   cases n <;> simp only [Oper.upon] at h ⊢
   case value u=>exact⟨keep a hy u,by rw [← Act.put_comm a v u h2];exact h⟩
   case skip=>exact⟨keep a hy _,by rw [← Act.put_comm a v undef h2];exact h⟩
   case defer d=>
    refine⟨keep _ (keepD d) _,?_⟩
    rw [← Act.put_comm _ v undef h2,← Act.put_defers]
    exact h
   case enter f args=>
    refine Calls.mono h fun e w'' he=>?_
    cases e with
    | returned u=>exact⟨keep a hy u,by rw [← Act.put_comm a v u h2];exact he⟩
    | panicked c=>exact he
    | outgrown=>exact he
   case row row args=>exact Rows.mono h fun u w'' he=>⟨keep a hy u,by rw [← Act.put_comm a v u h2];exact he⟩
  | halt x w'=>
   cases x <;> simp only [Oper.upon] at h ⊢
   case panic u=>exact h
 ·rename_i hw
  simp only [hw] at h
  exact⟨keep a hy _,by rw [← Act.put_comm a v undef h2];exact h⟩
theorem stillAny_firstG {S:Nat→World→Prop} {i:Nat} {oi:Oper} {v:Value} (hi:ops[i]?=some oi) (hsel:∀ (j:Nat) (o:Oper) cs b,ops[j]?=some o→o.op≠.select cs b) :
  ∀ (f:Nat) (listed:Array Bool) (a:Act) (w:World),S i w →
   (∀ j oj,ops[j]?=some oj→j≠i→listed.getD j true=false→(∀ e∈oj.after,Region.binds md e=true→e.on≠i)→oi.apart ops oj=true) →
   i∈Region.ready md ops listed→PureG P ops (S i) oi v a →
   stillAny P md ops Q S f (listed.setIfInBounds i true) (a.put oi.dst v) w→stillAny P md ops Q S (f+1) listed a w:=by
 intro f
 induction f with
 | zero=>
  intro listed a w hW hfree hr hy H
  refine⟨fun h=>(by rw [h] at hr;cases hr),fun j hj=>?_⟩
  by_cases hji:j=i
  ·subst hji;exact hy.wpOp hi hW ⟨fun _ _ h=>h,H⟩
  ·have:=ready_mono hj hji
   rw [H.1] at this
   cases this
 | succ f ih=>
  intro listed a w hW hfree hr hy H
  refine⟨fun h=>(by rw [h] at hr;cases hr),fun j hj=>?_⟩
  by_cases hji:j=i
  ·subst hji;exact hy.wpOp hi hW ⟨fun _ _ h=>h,H⟩
  ·obtain⟨hjun,oj,hoj,hall⟩:=mem_ready.1 hj
   have hnot:∀ e∈oj.after,Region.binds md e=true→e.on≠i:=fun e he hb heq=>by
    have h1:=hall e he hb
    rw [heq,getD_both (mem_ready.1 hr).1] at h1
    cases h1
   have hnw:¬ waitsFor md ops j i:=fun ⟨o,ho,e,he,hb,heq⟩=>by
    rw [hoj] at ho
    injection ho with ho
    subst ho
    exact hnot e he hb heq
   have hap:=hfree j oj hoj hji hjun hnot
   have hfree':∀ k ok,ops[k]?=some ok→k≠i→(listed.setIfInBounds j true).getD k true=false →
     (∀ e∈ok.after,Region.binds md e=true→e.on≠i)→oi.apart ops ok=true:=fun k ok hk hki hun' hno=>by
    refine hfree k ok hk hki ?_ hno
    by_cases hjk:j=k
    ·subst hjk;exact hjun
    ·rw [getD_set_ne true hjk] at hun';exact hun'
   have h1:=H.2 j (ready_mono hj hji)
   have h2:=wpOp_putG hoj hap (fun cs b=>hsel i oi cs b hi) (fun cs b=>hsel j oj cs b hoj) hy h1
   refine wpOp_mono (fun a' w'' h3=>⟨h3.2.1,ih (listed.setIfInBounds j true) a' w'' (h3.2.1 i hnw hW) hfree' (ready_mono hr (Ne.symm hji)) h3.1 ?_⟩) h2
   rw [Array.setIfInBounds_comm _ _ hji]
   exact h3.2.2
theorem wanted_at {o oj:Oper} {j d:Nat} {b w:Bool} {tmps:Array Value} (hg:o.guard=some (j,w)) (hj:ops[j]?=some oj) (hd:oj.dst=some d) (ht:tmps.toList[d]?=some (.bool b)):Region.wanted o (yielded ops tmps)=(b == w):=by
 unfold Region.wanted yielded
 rw [Array.getElem?_toList] at ht
 simp only [hg,hj,Option.bind_some,hd,ht]
 rfl
theorem still_wanted {S:Nat→World→Prop} (i:Nat) {oi oj:Oper} {v:Value} {f j d:Nat} {b:Bool} {listed:Array Bool} {a:Act} {w:World} (hi:ops[i]?=some oi) (hsel:Region.noSelect ops=true)
  (hf:Region.free md ops listed i=true) (hr:(Region.ready md ops listed).contains i=true) (hS:S i w) (hg:oi.guard=some (j,b)) (hj:ops[j]?=some oj) (hd:oj.dst=some d) (ht:a.tmps.toList[d]?=some (.bool b))
  (hy:∀ w,S i w→(execOp a.eval oi).run P w=.ok (.value v) w)
  (h:stillAny P md ops Q S f (listed.setIfInBounds i true) (a.put oi.dst v) w):stillAny P md ops Q S (f+1) listed a w:=
 stillAny_firstG hi (Region.noSelect_spec hsel) f listed a w hS (Region.free_spec hi hf) (by simpa using hr) (.inl ⟨by rw [wanted_at hg hj hd ht];cases b <;> rfl,hy⟩) h
theorem still_unwanted {S:Nat→World→Prop} (i:Nat) {oi oj:Oper} {f j d:Nat} {b:Bool} {listed:Array Bool} {a:Act} {w:World} (hi:ops[i]?=some oi) (hsel:Region.noSelect ops=true)
  (hf:Region.free md ops listed i=true) (hr:(Region.ready md ops listed).contains i=true) (hS:S i w) (hg:oi.guard=some (j,b)) (hj:ops[j]?=some oj) (hd:oj.dst=some d) (ht:a.tmps.toList[d]?=some (.bool !b))
  (h:stillAny P md ops Q S f (listed.setIfInBounds i true) (a.put oi.dst undef) w):stillAny P md ops Q S (f+1) listed a w:=
 stillAny_firstG hi (Region.noSelect_spec hsel) f listed a w hS (Region.free_spec hi hf) (by simpa using hr) (.inr ⟨by rw [wanted_at hg hj hd ht];cases b <;> rfl,rfl⟩) h
end
open Go.RowKit Go.Lib
set_option linter.unusedSimpArgs false
set_option maxHeartbeats 1000000 in
theorem neq_src (s t:Sr) (w:World):(binOp .neq 79 (.agg s.cells.toArray) (.agg t.cells.toArray)).run Tryz.prog w=.ok (.bool (!decide (s=t))) w:=by
 obtain⟨k,nm,an,ad,sn,sd,sm⟩:=s
 obtain⟨k2,nm2,an2,ad2,sn2,sd2,sm2⟩:=t
 unfold Sr.cells
 simp [go_sem,ba_toList]
 repeat' split
 all_goals simp_all
theorem sz_iff (s:ByteArray):s.toList.isEmpty=decide (s.size=0):=by
 rw [ByteArray.toList_eq,show s.size=s.data.toList.length from rfl]
 cases s.data.toList with
 | nil=>rfl
 | cons a l=>exact (decide_eq_false (by simp)).symm
def evZo (kd p fr n t:Int):List Value:=[.int .i64 kd,.int .i64 p,.int .i64 fr,.string ⟨#[]⟩,.int .i64 0,.int .i64 0,.int .i64 n,.int .i64 t]
set_option maxRecDepth 20000 in
set_option maxHeartbeats 8000000 in
theorem eevent_core (k7:Nat) (hk7:7=k7) (m:CM) (es:List Ev) (v:Value) (n:Int) (w:World) (hch:ChR w m) (h:EvsR w v es) (hn:es.length≤1000000) (hl:1≤m.c.len∧m.c.len≤2147483647) (h0:0≤n) (h1:n≤1099511627776)
  (ha:-4611686018427387904≤m.c.a.an∧m.c.a.an≤4611686018427387904) (hb:-4611686018427387904≤m.c.b.an∧m.c.b.an≤4611686018427387904) :
  Calls Tryz.prog 52 #[m.val,v,.int .i64 n] w fun e w'=>∃ (x:Ev) (B:Bool),e=.returned (.tuple #[x.val,.bool B])∧Gr w w'∧((B=true∧evO m.c (bfR es.reverse n) n=some x)∨(B=false∧evO m.c (bfR es.reverse n) n=none)):=by
 have aE7:∀ w,(isAgg 79).run Tryz.prog w=.ok true w:=Tryz.isAgg79
 have zE7:∀ w,(Go.sizeOf 79).run Tryz.prog w=.ok k7 w:=fun w=>by rw [← hk7];exact Tryz.sizeOf79 w
 have hk0:¬ k7=0:=by omega
 have HB:Hid (∀ w',Gr w w'→Calls Tryz.prog 86 #[v,.int .i64 n] w' fun e w''=>e=.returned (.agg (bfR es.reverse n).cells.toArray)∧Gr w' w''):=Lib.hid fun w' hg=>before_any es v n w' (h.gr hg) hn
 obtain⟨pv,cv0,rfl,-⟩:=h.shape
 obtain⟨bf,hbf⟩:∃ bf,bfR es.reverse n=bf:=⟨_,rfl⟩
 rw [hbf] at HB ⊢
 have HR:Hid (∀ (s:Sr) w',Calls Tryz.prog 95 #[.agg s.cells.toArray] w' fun e w''=>e=.returned (.tuple #[.string (relN s),.int .i64 (relI s),.bool (relB s)])∧Gr w' w''):=Lib.hid ereel_any
 have hq:Hid (∀ w,(binOp .neq 79 (.agg m.c.a.cells.toArray) (.agg bf.cells.toArray)).run Tryz.prog w=.ok (.bool (!decide (m.c.a=bf))) w):=Lib.hid fun w=>neq_src m.c.a bf w
 obtain⟨ac,cpc,hcv⟩:=hch.slice
 have hone:=hch.one
 obtain⟨C,hC⟩:∃ C,C=m.c:=⟨_,rfl⟩
 have hbm:Blk (w.alloc (.cells m.cells.toArray 81)) w.heap.size 81 m.cells:=Blk.new w m.cells 81
 have hg1:Gr w (w.alloc (.cells m.cells.toArray 81)):=(Gr.refl w).alloc _
 unfold CM.val
 replace hk7:=Lib.hid hk7
 have x:=hbm.lt
 have i0:m.cells[0]?=some (.int .i64 m.c.len):=rfl
 have x0:=(hbm.cel.2 0 _ i0).1
 have hsum:0≤n+m.c.len∧n+m.c.len≤1099511627776 * 2:=by omega
 clear hbf h hn
 go_enter Tryz.func52,Tryz.ntmps52
 go_upto_region 2 with fail
 have hbE:Blk ((w.alloc (.cells m.cells.toArray 81)).alloc (.cells (evZo 0 0 0 n (n+m.c.len)).toArray 30)) (w.heap.size+1) 30 (evZo 0 0 0 n (n+m.c.len)):=by
  have:=Blk.new (w.alloc (.cells m.cells.toArray 81)) (evZo 0 0 0 n (n+m.c.len)) 30
  simpa using this
 have hb1:=hbm.gr ((Gr.refl _).alloc (.cells (evZo 0 0 0 n (n+m.c.len)).toArray 30))
 have hg2:=hg1.alloc (.cells (evZo 0 0 0 n (n+m.c.len)).toArray 30)
 rw [show (#[.int .i64 0,.int .i64 0,.int .i64 0,.string ⟨#[]⟩,.int .i64 0,.int .i64 0,.int .i64 n,.int .i64 (n+m.c.len)]:Array Value)=(evZo 0 0 0 n (n+m.c.len)).toArray from rfl]
 clear x x0 hbm hg1
 generalize (w.alloc (.cells m.cells.toArray 81)).alloc (.cells (evZo 0 0 0 n (n+m.c.len)).toArray 30)=W1 at *
 have x:=hb1.lt
 have lb9:=(box_src (P:=Tryz.prog) hk7.out hb1.cel).2
 have hl7:Hid (m.c.b.cells.length=7):=Lib.hid rfl
 have hlbk:m.c.b.cells.length=k7:=hk7.out
 have honeb:=Sr.one m.c.b
 have st2:Sem.run Tryz.prog (storeCells ⟨W1.heap.size,0,none⟩ m.c.b.cells 0) (W1.alloc (.cells #[.int .i64 0,.string ⟨#[]⟩,.int .i64 0,.int .i64 0,.int .i64 0,.int .i64 0,.bool false] 79))=.ok () (W1.alloc (.cells m.c.b.cells.toArray 79)):=st_new W1 _ _ m.c.b.cells infoSrc7 rfl honeb
 have hbS:Blk (W1.alloc (.cells m.c.b.cells.toArray 79)) W1.heap.size 79 m.c.b.cells:=Blk.new W1 m.c.b.cells 79
 have hgs:Gr W1 (W1.alloc (.cells m.c.b.cells.toArray 79)):=(Gr.refl W1).alloc _
 have hEl:=hbE.lt
 go_upto_region 3 with fail
 have hb2:=hb1.gr hgs
 have hE2:=hbE.gr hgs
 have hg3:=hg2.trans hgs
 obtain⟨SB,hSB⟩:∃ SB,W1.heap.size=SB:=⟨_,rfl⟩
 rw [hSB] at hbS hEl ⊢
 clear hSB lb9 st2 hgs hb1 hbE hg2 x
 generalize W1.alloc (.cells m.c.b.cells.toArray 79)=W2 at *
 have x:=hb2.lt
 have x1:=(hb2.cel.2 1 _ rfl).1
 go_upto_block 0 with fail
 go_cut [19] (fun _ wx=>∃ (kd p fr:Int) (s:Sr),Blk wx (w.heap.size+1) 30 (evZo kd p fr n (n+m.c.len))∧Cel wx SB s.cells∧Blk wx w.heap.size 81 m.cells∧Gr w wx∧Hid (evO m.c bf n=if relB s && okC m.c then some (mkE kd p fr s n m.c.len) else none)∧-4611686018427387904≤s.an∧s.an≤4611686018427387904)
 case first=>
  have x0:=(hb2.cel.2 0 _ rfl).1
  by_cases c1:m.c.kind=1
  ·have q1:(m.c.kind == 1)=true:=by simp [c1]
   have hev:Hid (evO m.c bf n=if relB m.c.a && okC m.c then some (mkE 0 0 0 m.c.a n m.c.len) else none):=Lib.hid (by unfold evO;rw [if_pos c1])
   replace c1:=Lib.hid c1
   have la2:=(box_src (P:=Tryz.prog) hk7.out hb2.cel).1
   have hla:m.c.a.cells.length=k7:=hk7.out
   have honea:=Sr.one m.c.a
   have stS:=st_blk (P:=Tryz.prog) hbS (show m.c.a.cells.length=m.c.b.cells.length from rfl) honea
   have y:=hbS.lt
   go_wp2
   go_meet
   exact⟨0,0,0,m.c.a,hE2.setRow_other (by omega) _,(hbS.setRow m.c.a.cells).cel,hb2.setRow_other (by omega) _,hg3.setRow (by omega) _,hev,ha.1,ha.2⟩
  ·have q1:(m.c.kind == 1)=false:=by simp [c1]
   by_cases c2:m.c.kind=2∨m.c.kind=3
   ·rcases c2 with c2 | c2
    ·have q2:(m.c.kind == 2)=true:=by simp [c2]
     have q3:(m.c.kind == 3)=false:=by simp [c2]
     have hev0:evO m.c bf n=if m.c.off=0∧m.c.tot=m.c.len∧m.c.a=bf then (if relB m.c.b && okC m.c then some (mkE 1 m.c.par m.c.len m.c.b n m.c.len) else none) else none:=by
      unfold evO
      rw [if_neg c1,if_pos (by omega),show m.c.kind - 1=1 by omega]
     replace hev0:=Lib.hid hev0
     replace c1:=Lib.hid c1
     replace c2:=Lib.hid c2
     have x16:=(hb2.cel.2 16 _ rfl).1
     have x17:=(hb2.cel.2 17 _ rfl).1
     have x18:=(hb2.cel.2 18 _ rfl).1
     have la2:∀ y:GW W2,Sem.run Tryz.prog (loadCellsFrom ⟨w.heap.size,2,none⟩ 0 k7 #[]) y.w=.ok m.c.a.cells.toArray y.w:=fun y=>(box_src (P:=Tryz.prog) hk7.out (hb2.gr y.h).cel).1
     have hqq:=hq.out
     go_upto_region 9 with fail
     go_cut [44] (fun vb wx=>∃ B:Bool,vb=.bool B∧Gr W2 wx∧((B=true∧¬ (m.c.off=0∧m.c.tot=m.c.len∧m.c.a=bf))∨(B=false∧(m.c.off=0∧m.c.tot=m.c.len∧m.c.a=bf))))
     case first=>
      by_cases d1:m.c.off=0
      ·have p1:(m.c.off != 0)=false:=by simp [d1]
       by_cases d2:m.c.tot=m.c.len
       ·have p2:(m.c.tot != m.c.len)=false:=by simp [d2]
        obtain⟨K,hK⟩:∃ K,decide (m.c.a=bf)=K:=⟨_,rfl⟩
        rw [hK] at hqq
        replace d1:=Lib.hid d1
        replace d2:=Lib.hid d2
        refine wp_region_gr (by kernel_rfl) (by kernel_rfl) (fun hq1 hq2=>?_)
        repeat (first | go_big_quiet_skip | (go_big_quiet_want;go_big_quiet_op;first | go_big_quiet_on | (apply Exists.intro;refine⟨fun _=>?_,?_⟩;(· ((go_at_call 86;exact gr_call (HB.out _ (hg3.trans (GW.h _))))));go_big_quiet_on)))
        refine wpQuiet_nil ?_
        clear hq1 hq2
        rintro w1 ⟨⟨_,hg1⟩,rfl⟩
        obtain⟨hc1,hf1⟩:=hg1.cells
        have hz1:=hg1.size
        (try simp at hz1);(try have hl1_0_0:w.heap.size<w1.heap.size:=by omega);(try have hm1_0_0:w.heap.size≤w1.heap.size:=by omega);(try have hl1_0_1:w.heap.size+1<w1.heap.size:=by omega);(try have hl1_0_2:w.heap.size+2<w1.heap.size:=by omega)
        go_wp2
        go_meet
        refine⟨!K,rfl,hg1,?_⟩
        cases K
        ·exact .inl ⟨rfl,fun e=>by have:=of_decide_eq_false hK;exact this e.2.2⟩
        ·exact .inr ⟨rfl,d1.out,d2.out,of_decide_eq_true hK⟩
       ·have p2:(m.c.tot != m.c.len)=true:=by simp [d2]
        replace d1:=Lib.hid d1
        replace d2:=Lib.hid d2
        refine wp_region_gr (by kernel_rfl) (by kernel_rfl) (fun hq1 hq2=>?_)
        repeat (first | go_big_quiet_skip | (go_big_quiet_want;go_big_quiet_op;first | go_big_quiet_on | (apply Exists.intro;refine⟨fun _=>?_,?_⟩;(· (fail));go_big_quiet_on)))
        refine wpQuiet_nil ?_
        clear hq1 hq2
        rintro w1 ⟨⟨_,hg1⟩,rfl⟩
        obtain⟨hc1,hf1⟩:=hg1.cells
        have hz1:=hg1.size
        (try simp at hz1);(try have hl1_0_0:w.heap.size<w1.heap.size:=by omega);(try have hm1_0_0:w.heap.size≤w1.heap.size:=by omega);(try have hl1_0_1:w.heap.size+1<w1.heap.size:=by omega);(try have hl1_0_2:w.heap.size+2<w1.heap.size:=by omega)
        go_wp2
        go_meet
        exact⟨true,rfl,hg1,.inl ⟨rfl,fun e=>d2.out e.2.1⟩⟩
      ·have p1:(m.c.off != 0)=true:=by simp [d1]
       replace d1:=Lib.hid d1
       refine wp_region_gr (by kernel_rfl) (by kernel_rfl) (fun hq1 hq2=>?_)
       repeat (first | go_big_quiet_skip | (go_big_quiet_want;go_big_quiet_op;first | go_big_quiet_on | (apply Exists.intro;refine⟨fun _=>?_,?_⟩;(· (fail));go_big_quiet_on)))
       refine wpQuiet_nil ?_
       clear hq1 hq2
       rintro w1 ⟨⟨_,hg1⟩,rfl⟩
       obtain⟨hc1,hf1⟩:=hg1.cells
       have hz1:=hg1.size
       (try simp at hz1);(try have hl1_0_0:w.heap.size<w1.heap.size:=by omega);(try have hm1_0_0:w.heap.size≤w1.heap.size:=by omega);(try have hl1_0_1:w.heap.size+1<w1.heap.size:=by omega);(try have hl1_0_2:w.heap.size+2<w1.heap.size:=by omega)
       go_wp2
       go_meet
       exact⟨true,rfl,hg1,.inl ⟨rfl,fun e=>d1.out e.1⟩⟩
     case rest=>
      obtain⟨B,rfl,hg4,hB⟩:=hcut
      have hb4:=hb2.gr hg4
      have hE4:=hE2.gr hg4
      have hS4:=hbS.gr hg4
      have hg5:=hg3.trans hg4
      clear x x0 x1 x16 x17 x18 la2 hqq
      cases B with
      | true=>
       have hev:Hid (evO m.c bf n=none):=Lib.hid (by
        rw [hev0.out,if_neg]
        rcases hB with ⟨_,h⟩ | ⟨h,_⟩
        ·exact h
        ·cases h)
       obtain⟨z0,f0⟩:=hE4.cel.2 0 _ rfl
       obtain⟨z1,f1⟩:=hE4.cel.2 1 _ rfl
       obtain⟨z2,f2⟩:=hE4.cel.2 2 _ rfl
       obtain⟨z3,f3⟩:=hE4.cel.2 3 _ rfl
       obtain⟨z4,f4⟩:=hE4.cel.2 4 _ rfl
       obtain⟨z5,f5⟩:=hE4.cel.2 5 _ rfl
       obtain⟨z6,f6⟩:=hE4.cel.2 6 _ rfl
       obtain⟨z7,f7⟩:=hE4.cel.2 7 _ rfl
       have zl:=hE4.lt
       go_wp2
       simp [bodyPost,results,Tryz.results52,go_sem,z0,z1,z2,z3,z4,z5,z6,z7]
       refine⟨⟨⟨0,0,0,⟨#[]⟩,0,0,0,0⟩,rfl⟩,?_,hev.out⟩
       repeat (first | (with_reducible exact hg5) | (with_reducible refine Gr.setCell ?_ (show w.heap.size≤w.heap.size+1 by omega) _))
      | false=>
       have hev:Hid (evO m.c bf n=if relB m.c.b && okC m.c then some (mkE 1 m.c.par m.c.len m.c.b n m.c.len) else none):=Lib.hid (by
        rw [hev0.out,if_pos]
        rcases hB with ⟨h,_⟩ | ⟨_,h⟩
        ·cases h
        ·exact h)
       have hgu:Gr wc wc.drew:=(Gr.refl wc).drew
       replace hb4:=hb4.gr hgu
       replace hE4:=hE4.gr hgu
       replace hS4:=hS4.gr hgu
       replace hg5:=hg5.trans hgu
       clear hgu hg4 hB
       go_upto_region 11 with fail
       refine wp_region_still (Keep 4 (fun y=>Blk y w.heap.size 81 m.cells)) 10 rfl (by kernel_rfl) ?_
       show stillAny _ _ _ _ _ _ #[false,false,false,false,false,false,false,false,false,false] _ _
       generalize wc.drew=U at *
       refine still_pure 0 (v:=.pointer (some ⟨w.heap.size,0,none⟩)) rfl (by kernel_rfl) (by kernel_rfl) (by kernel_rfl) (fun _=>hb4) rfl (fun w hw=>?_) ?_
       ·simp [execOp,go_sem] <;> (intros;omega)
       simp only [Act.put,zG,zH,zK,zI,zS,zZ]
       refine still_pure 1 (v:=.int .i64 m.c.len) rfl (by kernel_rfl) (by kernel_rfl) (by kernel_rfl) (fun _=>hb4) rfl (fun w hw=>?_) ?_
       ·replace hw:=hw (by decide)
        have hq0:=hw.lt
        have hq1:=(hw.cel.2 0 _ rfl).1
        (try simp at hq0 hq1)
        simp [execOp,go_sem,hq0,hq1]
       simp only [Act.put,zG,zH,zK,zI,zS,zZ]
       refine still_pure 2 (v:=.pointer (some ⟨w.heap.size,18,none⟩)) rfl (by kernel_rfl) (by kernel_rfl) (by kernel_rfl) (fun _=>hb4) rfl (fun w hw=>?_) ?_
       ·simp [execOp,go_sem] <;> (intros;omega)
       simp only [Act.put,zG,zH,zK,zI,zS,zZ]
       refine still_pure 3 (v:=.int .i64 m.c.par) rfl (by kernel_rfl) (by kernel_rfl) (by kernel_rfl) (fun _=>hb4) rfl (fun w hw=>?_) ?_
       ·replace hw:=hw (by decide)
        have hq0:=hw.lt
        have hq1:=(hw.cel.2 18 _ rfl).1
        (try simp at hq0 hq1)
        simp [execOp,go_sem,hq0,hq1]
       simp only [Act.put,zG,zH,zK,zI,zS,zZ]
       obtain⟨z0,f0⟩:=hE4.cel.2 0 _ rfl
       obtain⟨z1,f1⟩:=hE4.cel.2 1 _ rfl
       obtain⟨z2,f2⟩:=hE4.cel.2 2 _ rfl
       have zl:=hE4.lt
       refine still_next (j:=4) (by kernel_rfl) (by rfl) (fun R hR=>?_)
       (try simp only [zG,zH,zK])
       go_wp2_with fail
       refine only_normal (hR _ _ (Keep.step (fun h=>h)) ?_)
       clear hR R
       simp only [Act.put,zG,zH,zK,zI,zS,zZ]
       refine still_next (j:=5) (by kernel_rfl) (by rfl) (fun R hR=>?_)
       (try simp only [zG,zH,zK])
       go_wp2_with fail
       refine only_normal (hR _ _ (Keep.step (fun h=>h.other (by simp) _)) ?_)
       clear hR R
       simp only [Act.put,zG,zH,zK,zI,zS,zZ]
       refine still_next (j:=6) (by kernel_rfl) (by rfl) (fun R hR=>?_)
       (try simp only [zG,zH,zK])
       go_wp2_with fail
       refine only_normal (hR _ _ (Keep.step (fun h=>h)) ?_)
       clear hR R
       simp only [Act.put,zG,zH,zK,zI,zS,zZ]
       refine still_next (j:=7) (by kernel_rfl) (by rfl) (fun R hR=>?_)
       (try simp only [zG,zH,zK])
       go_wp2_with fail
       refine only_normal (hR _ _ (Keep.step (fun h=>h.other (by simp) _)) ?_)
       clear hR R
       simp only [Act.put,zG,zH,zK,zI,zS,zZ]
       refine still_next (j:=8) (by kernel_rfl) (by rfl) (fun R hR=>?_)
       (try simp only [zG,zH,zK])
       go_wp2_with fail
       refine only_normal (hR _ _ (Keep.step (fun h=>h)) ?_)
       clear hR R
       simp only [Act.put,zG,zH,zK,zI,zS,zZ]
       refine still_next (j:=9) (by kernel_rfl) (by rfl) (fun R hR=>?_)
       (try simp only [zG,zH,zK])
       go_wp2_with fail
       refine only_normal (hR _ _ (Keep.step (fun h=>h.other (by simp) _)) ?_)
       clear hR R
       simp only [Act.put,zG,zH,zK,zI,zS,zZ]
       refine still_done (by kernel_rfl) ?_
       (try simp only [zG,zH,zK,zI,zS,zZ])
       have hbn:=((hb4.other (p:=⟨w.heap.size+1,0,none⟩) (by simp) (.int .i64 1)).other (p:=⟨w.heap.size+1,2,none⟩) (by simp) (.int .i64 m.c.len)).other (p:=⟨w.heap.size+1,1,none⟩) (by simp) (.int .i64 m.c.par)
       have hEn:=((hE4.set 0 (.int .i64 1)).set 2 (.int .i64 m.c.len)).set 1 (.int .i64 m.c.par)
       have hSn:=((hS4.other (p:=⟨w.heap.size+1,0,none⟩) (by simp;omega) (.int .i64 1)).other (p:=⟨w.heap.size+1,2,none⟩) (by simp;omega) (.int .i64 m.c.len)).other (p:=⟨w.heap.size+1,1,none⟩) (by simp;omega) (.int .i64 m.c.par)
       have hgn:=Gr.setCell (Gr.setCell (Gr.setCell hg5 (p:=⟨w.heap.size+1,0,none⟩) (by simp) (.int .i64 1)) (p:=⟨w.heap.size+1,2,none⟩) (by simp) (.int .i64 m.c.len)) (p:=⟨w.heap.size+1,1,none⟩) (by simp) (.int .i64 m.c.par)
       clear hb4 hE4 hS4 hg5 z0 z1 z2 f0 f1 f2 zl
       generalize ((U.setCell ⟨w.heap.size+1,0,none⟩ (.int .i64 1)).setCell ⟨w.heap.size+1,2,none⟩ (.int .i64 m.c.len)).setCell ⟨w.heap.size+1,1,none⟩ (.int .i64 m.c.par)=V at *
       replace hEn:Blk V (w.heap.size+1) 30 (evZo 1 m.c.par m.c.len n (n+m.c.len)):=hEn
       have v1:=(hbn.cel.2 1 _ rfl).1
       have vl:=hbn.lt
       have el:=hEn.lt
       obtain⟨y0,g0⟩:=hEn.cel.2 0 _ rfl
       go_wp2
       go_meet
       exact⟨1,m.c.par,m.c.len,m.c.b,hEn,hSn.cel,hbn,hgn,hev,hb.1,hb.2⟩
    ·have q2:(m.c.kind == 2)=false:=by simp [c2]
     have q3:(m.c.kind == 3)=true:=by simp [c2]
     have hev0:evO m.c bf n=if m.c.off=0∧m.c.tot=m.c.len∧m.c.a=bf then (if relB m.c.b && okC m.c then some (mkE 2 m.c.par m.c.len m.c.b n m.c.len) else none) else none:=by
      unfold evO
      rw [if_neg c1,if_pos (by omega),show m.c.kind - 1=2 by omega]
     replace hev0:=Lib.hid hev0
     replace c1:=Lib.hid c1
     replace c2:=Lib.hid c2
     have x16:=(hb2.cel.2 16 _ rfl).1
     have x17:=(hb2.cel.2 17 _ rfl).1
     have x18:=(hb2.cel.2 18 _ rfl).1
     have la2:∀ y:GW W2,Sem.run Tryz.prog (loadCellsFrom ⟨w.heap.size,2,none⟩ 0 k7 #[]) y.w=.ok m.c.a.cells.toArray y.w:=fun y=>(box_src (P:=Tryz.prog) hk7.out (hb2.gr y.h).cel).1
     have hqq:=hq.out
     go_upto_region 9 with fail
     go_cut [44] (fun vb wx=>∃ B:Bool,vb=.bool B∧Gr W2 wx∧((B=true∧¬ (m.c.off=0∧m.c.tot=m.c.len∧m.c.a=bf))∨(B=false∧(m.c.off=0∧m.c.tot=m.c.len∧m.c.a=bf))))
     case first=>
      by_cases d1:m.c.off=0
      ·have p1:(m.c.off != 0)=false:=by simp [d1]
       by_cases d2:m.c.tot=m.c.len
       ·have p2:(m.c.tot != m.c.len)=false:=by simp [d2]
        obtain⟨K,hK⟩:∃ K,decide (m.c.a=bf)=K:=⟨_,rfl⟩
        rw [hK] at hqq
        replace d1:=Lib.hid d1
        replace d2:=Lib.hid d2
        refine wp_region_gr (by kernel_rfl) (by kernel_rfl) (fun hq1 hq2=>?_)
        repeat (first | go_big_quiet_skip | (go_big_quiet_want;go_big_quiet_op;first | go_big_quiet_on | (apply Exists.intro;refine⟨fun _=>?_,?_⟩;(· ((go_at_call 86;exact gr_call (HB.out _ (hg3.trans (GW.h _))))));go_big_quiet_on)))
        refine wpQuiet_nil ?_
        clear hq1 hq2
        rintro w1 ⟨⟨_,hg1⟩,rfl⟩
        obtain⟨hc1,hf1⟩:=hg1.cells
        have hz1:=hg1.size
        (try simp at hz1);(try have hl1_0_0:w.heap.size<w1.heap.size:=by omega);(try have hm1_0_0:w.heap.size≤w1.heap.size:=by omega);(try have hl1_0_1:w.heap.size+1<w1.heap.size:=by omega);(try have hl1_0_2:w.heap.size+2<w1.heap.size:=by omega)
        go_wp2
        go_meet
        refine⟨!K,rfl,hg1,?_⟩
        cases K
        ·exact .inl ⟨rfl,fun e=>by have:=of_decide_eq_false hK;exact this e.2.2⟩
        ·exact .inr ⟨rfl,d1.out,d2.out,of_decide_eq_true hK⟩
       ·have p2:(m.c.tot != m.c.len)=true:=by simp [d2]
        replace d1:=Lib.hid d1
        replace d2:=Lib.hid d2
        refine wp_region_gr (by kernel_rfl) (by kernel_rfl) (fun hq1 hq2=>?_)
        repeat (first | go_big_quiet_skip | (go_big_quiet_want;go_big_quiet_op;first | go_big_quiet_on | (apply Exists.intro;refine⟨fun _=>?_,?_⟩;(· (fail));go_big_quiet_on)))
        refine wpQuiet_nil ?_
        clear hq1 hq2
        rintro w1 ⟨⟨_,hg1⟩,rfl⟩
        obtain⟨hc1,hf1⟩:=hg1.cells
        have hz1:=hg1.size
        (try simp at hz1);(try have hl1_0_0:w.heap.size<w1.heap.size:=by omega);(try have hm1_0_0:w.heap.size≤w1.heap.size:=by omega);(try have hl1_0_1:w.heap.size+1<w1.heap.size:=by omega);(try have hl1_0_2:w.heap.size+2<w1.heap.size:=by omega)
        go_wp2
        go_meet
        exact⟨true,rfl,hg1,.inl ⟨rfl,fun e=>d2.out e.2.1⟩⟩
      ·have p1:(m.c.off != 0)=true:=by simp [d1]
       replace d1:=Lib.hid d1
       refine wp_region_gr (by kernel_rfl) (by kernel_rfl) (fun hq1 hq2=>?_)
       repeat (first | go_big_quiet_skip | (go_big_quiet_want;go_big_quiet_op;first | go_big_quiet_on | (apply Exists.intro;refine⟨fun _=>?_,?_⟩;(· (fail));go_big_quiet_on)))
       refine wpQuiet_nil ?_
       clear hq1 hq2
       rintro w1 ⟨⟨_,hg1⟩,rfl⟩
       obtain⟨hc1,hf1⟩:=hg1.cells
       have hz1:=hg1.size
       (try simp at hz1);(try have hl1_0_0:w.heap.size<w1.heap.size:=by omega);(try have hm1_0_0:w.heap.size≤w1.heap.size:=by omega);(try have hl1_0_1:w.heap.size+1<w1.heap.size:=by omega);(try have hl1_0_2:w.heap.size+2<w1.heap.size:=by omega)
       go_wp2
       go_meet
       exact⟨true,rfl,hg1,.inl ⟨rfl,fun e=>d1.out e.1⟩⟩
     case rest=>
      obtain⟨B,rfl,hg4,hB⟩:=hcut
      have hb4:=hb2.gr hg4
      have hE4:=hE2.gr hg4
      have hS4:=hbS.gr hg4
      have hg5:=hg3.trans hg4
      clear x x0 x1 x16 x17 x18 la2 hqq
      cases B with
      | true=>
       have hev:Hid (evO m.c bf n=none):=Lib.hid (by
        rw [hev0.out,if_neg]
        rcases hB with ⟨_,h⟩ | ⟨h,_⟩
        ·exact h
        ·cases h)
       obtain⟨z0,f0⟩:=hE4.cel.2 0 _ rfl
       obtain⟨z1,f1⟩:=hE4.cel.2 1 _ rfl
       obtain⟨z2,f2⟩:=hE4.cel.2 2 _ rfl
       obtain⟨z3,f3⟩:=hE4.cel.2 3 _ rfl
       obtain⟨z4,f4⟩:=hE4.cel.2 4 _ rfl
       obtain⟨z5,f5⟩:=hE4.cel.2 5 _ rfl
       obtain⟨z6,f6⟩:=hE4.cel.2 6 _ rfl
       obtain⟨z7,f7⟩:=hE4.cel.2 7 _ rfl
       have zl:=hE4.lt
       go_wp2
       simp [bodyPost,results,Tryz.results52,go_sem,z0,z1,z2,z3,z4,z5,z6,z7]
       refine⟨⟨⟨0,0,0,⟨#[]⟩,0,0,0,0⟩,rfl⟩,?_,hev.out⟩
       repeat (first | (with_reducible exact hg5) | (with_reducible refine Gr.setCell ?_ (show w.heap.size≤w.heap.size+1 by omega) _))
      | false=>
       have hev:Hid (evO m.c bf n=if relB m.c.b && okC m.c then some (mkE 2 m.c.par m.c.len m.c.b n m.c.len) else none):=Lib.hid (by
        rw [hev0.out,if_pos]
        rcases hB with ⟨h,_⟩ | ⟨_,h⟩
        ·cases h
        ·exact h)
       have hgu:Gr wc wc.drew:=(Gr.refl wc).drew
       replace hb4:=hb4.gr hgu
       replace hE4:=hE4.gr hgu
       replace hS4:=hS4.gr hgu
       replace hg5:=hg5.trans hgu
       clear hgu hg4 hB
       go_upto_region 11 with fail
       refine wp_region_still (Keep 4 (fun y=>Blk y w.heap.size 81 m.cells)) 10 rfl (by kernel_rfl) ?_
       show stillAny _ _ _ _ _ _ #[false,false,false,false,false,false,false,false,false,false] _ _
       generalize wc.drew=U at *
       refine still_pure 0 (v:=.pointer (some ⟨w.heap.size,0,none⟩)) rfl (by kernel_rfl) (by kernel_rfl) (by kernel_rfl) (fun _=>hb4) rfl (fun w hw=>?_) ?_
       ·simp [execOp,go_sem] <;> (intros;omega)
       simp only [Act.put,zG,zH,zK,zI,zS,zZ]
       refine still_pure 1 (v:=.int .i64 m.c.len) rfl (by kernel_rfl) (by kernel_rfl) (by kernel_rfl) (fun _=>hb4) rfl (fun w hw=>?_) ?_
       ·replace hw:=hw (by decide)
        have hq0:=hw.lt
        have hq1:=(hw.cel.2 0 _ rfl).1
        (try simp at hq0 hq1)
        simp [execOp,go_sem,hq0,hq1]
       simp only [Act.put,zG,zH,zK,zI,zS,zZ]
       refine still_pure 2 (v:=.pointer (some ⟨w.heap.size,18,none⟩)) rfl (by kernel_rfl) (by kernel_rfl) (by kernel_rfl) (fun _=>hb4) rfl (fun w hw=>?_) ?_
       ·simp [execOp,go_sem] <;> (intros;omega)
       simp only [Act.put,zG,zH,zK,zI,zS,zZ]
       refine still_pure 3 (v:=.int .i64 m.c.par) rfl (by kernel_rfl) (by kernel_rfl) (by kernel_rfl) (fun _=>hb4) rfl (fun w hw=>?_) ?_
       ·replace hw:=hw (by decide)
        have hq0:=hw.lt
        have hq1:=(hw.cel.2 18 _ rfl).1
        (try simp at hq0 hq1)
        simp [execOp,go_sem,hq0,hq1]
       simp only [Act.put,zG,zH,zK,zI,zS,zZ]
       obtain⟨z0,f0⟩:=hE4.cel.2 0 _ rfl
       obtain⟨z1,f1⟩:=hE4.cel.2 1 _ rfl
       obtain⟨z2,f2⟩:=hE4.cel.2 2 _ rfl
       have zl:=hE4.lt
       refine still_next (j:=4) (by kernel_rfl) (by rfl) (fun R hR=>?_)
       (try simp only [zG,zH,zK])
       go_wp2_with fail
       refine only_normal (hR _ _ (Keep.step (fun h=>h)) ?_)
       clear hR R
       simp only [Act.put,zG,zH,zK,zI,zS,zZ]
       refine still_next (j:=5) (by kernel_rfl) (by rfl) (fun R hR=>?_)
       (try simp only [zG,zH,zK])
       go_wp2_with fail
       refine only_normal (hR _ _ (Keep.step (fun h=>h.other (by simp) _)) ?_)
       clear hR R
       simp only [Act.put,zG,zH,zK,zI,zS,zZ]
       refine still_next (j:=6) (by kernel_rfl) (by rfl) (fun R hR=>?_)
       (try simp only [zG,zH,zK])
       go_wp2_with fail
       refine only_normal (hR _ _ (Keep.step (fun h=>h)) ?_)
       clear hR R
       simp only [Act.put,zG,zH,zK,zI,zS,zZ]
       refine still_next (j:=7) (by kernel_rfl) (by rfl) (fun R hR=>?_)
       (try simp only [zG,zH,zK])
       go_wp2_with fail
       refine only_normal (hR _ _ (Keep.step (fun h=>h.other (by simp) _)) ?_)
       clear hR R
       simp only [Act.put,zG,zH,zK,zI,zS,zZ]
       refine still_next (j:=8) (by kernel_rfl) (by rfl) (fun R hR=>?_)
       (try simp only [zG,zH,zK])
       go_wp2_with fail
       refine only_normal (hR _ _ (Keep.step (fun h=>h)) ?_)
       clear hR R
       simp only [Act.put,zG,zH,zK,zI,zS,zZ]
       refine still_next (j:=9) (by kernel_rfl) (by rfl) (fun R hR=>?_)
       (try simp only [zG,zH,zK])
       go_wp2_with fail
       refine only_normal (hR _ _ (Keep.step (fun h=>h.other (by simp) _)) ?_)
       clear hR R
       simp only [Act.put,zG,zH,zK,zI,zS,zZ]
       refine still_done (by kernel_rfl) ?_
       (try simp only [zG,zH,zK,zI,zS,zZ])
       have hbn:=((hb4.other (p:=⟨w.heap.size+1,0,none⟩) (by simp) (.int .i64 1)).other (p:=⟨w.heap.size+1,2,none⟩) (by simp) (.int .i64 m.c.len)).other (p:=⟨w.heap.size+1,1,none⟩) (by simp) (.int .i64 m.c.par)
       have hEn:=((hE4.set 0 (.int .i64 1)).set 2 (.int .i64 m.c.len)).set 1 (.int .i64 m.c.par)
       have hSn:=((hS4.other (p:=⟨w.heap.size+1,0,none⟩) (by simp;omega) (.int .i64 1)).other (p:=⟨w.heap.size+1,2,none⟩) (by simp;omega) (.int .i64 m.c.len)).other (p:=⟨w.heap.size+1,1,none⟩) (by simp;omega) (.int .i64 m.c.par)
       have hgn:=Gr.setCell (Gr.setCell (Gr.setCell hg5 (p:=⟨w.heap.size+1,0,none⟩) (by simp) (.int .i64 1)) (p:=⟨w.heap.size+1,2,none⟩) (by simp) (.int .i64 m.c.len)) (p:=⟨w.heap.size+1,1,none⟩) (by simp) (.int .i64 m.c.par)
       clear hb4 hE4 hS4 hg5 z0 z1 z2 f0 f1 f2 zl
       generalize ((U.setCell ⟨w.heap.size+1,0,none⟩ (.int .i64 1)).setCell ⟨w.heap.size+1,2,none⟩ (.int .i64 m.c.len)).setCell ⟨w.heap.size+1,1,none⟩ (.int .i64 m.c.par)=V at *
       replace hEn:Blk V (w.heap.size+1) 30 (evZo 1 m.c.par m.c.len n (n+m.c.len)):=hEn
       have v1:=(hbn.cel.2 1 _ rfl).1
       have vl:=hbn.lt
       have el:=hEn.lt
       obtain⟨y0,g0⟩:=hEn.cel.2 0 _ rfl
       go_wp2
       go_meet
       exact⟨2,m.c.par,m.c.len,m.c.b,hEn.set 0 _,(hSn.other (by simp;omega) _).cel,hbn.other (by simp) _,Gr.setCell hgn (by simp) _,hev,hb.1,hb.2⟩
   ·have q2:(m.c.kind == 2)=false:=by simp;omega
    have q3:(m.c.kind == 3)=false:=by simp;omega
    have hev:Hid (evO m.c bf n=none):=Lib.hid (by unfold evO;rw [if_neg c1,if_neg c2])
    replace c1:=Lib.hid c1
    replace c2:=Lib.hid c2
    obtain⟨z0,f0⟩:=hE2.cel.2 0 _ rfl
    obtain⟨z1,f1⟩:=hE2.cel.2 1 _ rfl
    obtain⟨z2,f2⟩:=hE2.cel.2 2 _ rfl
    obtain⟨z3,f3⟩:=hE2.cel.2 3 _ rfl
    obtain⟨z4,f4⟩:=hE2.cel.2 4 _ rfl
    obtain⟨z5,f5⟩:=hE2.cel.2 5 _ rfl
    obtain⟨z6,f6⟩:=hE2.cel.2 6 _ rfl
    obtain⟨z7,f7⟩:=hE2.cel.2 7 _ rfl
    have zl:=hE2.lt
    go_wp2
    simp [bodyPost,results,Tryz.results52,go_sem,z0,z1,z2,z3,z4,z5,z6,z7]
    refine⟨⟨⟨0,0,0,⟨#[]⟩,0,0,0,0⟩,rfl⟩,?_,hev.out⟩
    repeat (first | (with_reducible exact hg3) | (with_reducible refine Gr.setCell ?_ (show w.heap.size≤w.heap.size+1 by omega) _))
 case rest=>
  obtain⟨kd,p,fr,s,hE,hS,hbc,hg,hev,ha1,ha2⟩:=hcut
  have ls:Sem.run Tryz.prog (loadCellsFrom ⟨SB,0,none⟩ 0 k7 #[]) wc=.ok s.cells.toArray wc:=ld_cel (show s.cells.length=k7 from hk7.out) hS
  have sl:=hS.lt
  clear hb2 hE2 hg3 hbS x x1 hq HB hsum
  obtain⟨rn,hrn⟩:∃ rn,relN s=rn:=⟨_,rfl⟩
  obtain⟨ri,hri⟩:∃ ri,relI s=ri:=⟨_,rfl⟩
  obtain⟨rb,hrb⟩:∃ rb,relB s=rb:=⟨_,rfl⟩
  have hR1:=HR.out s
  rw [hrn,hri,hrb] at hR1
  have hri2:-4611686018427387904≤ri∧ri≤4611686018427387904:=by
   rw [← hri];unfold relI;split <;> omega
  replace hri2:=Lib.hid hri2
  go_upto_region 15 with (go_at_call 95;(with_reducible refine (hR1 _).mono ?_);rintro e w2 ⟨rfl,hg2⟩;have hE3:=hE.gr hg2;have hlE:=hE3.lt;obtain⟨z3,f3⟩:=hE3.cel.2 3 _ rfl;obtain⟨z4,f4⟩:=hE3.cel.2 4 _ rfl)
  have hbn:=((hbc.gr hg2).other (p:=⟨w.heap.size+1,3,none⟩) (by simp) (.string rn)).other (p:=⟨w.heap.size+1,4,none⟩) (by simp) (.int .i64 ri)
  have hEn:=(hE3.set 3 (.string rn)).set 4 (.int .i64 ri)
  have hgn:=Gr.setCell (Gr.setCell (hg.trans hg2) (p:=⟨w.heap.size+1,3,none⟩) (by simp) (.string rn)) (p:=⟨w.heap.size+1,4,none⟩) (by simp) (.int .i64 ri)
  clear hE hS hbc hg ls sl hR1 HR hE3 hlE z3 f3 z4 f4 hg2 hEl
  generalize (w2.setCell ⟨w.heap.size+1,3,none⟩ (.string rn)).setCell ⟨w.heap.size+1,4,none⟩ (.int .i64 ri)=V at *
  replace hEn:Blk V (w.heap.size+1) 30 [.int .i64 kd,.int .i64 p,.int .i64 fr,.string rn,.int .i64 ri,.int .i64 0,.int .i64 n,.int .i64 (n+m.c.len)]:=hEn
  have v0:=(hbn.cel.2 0 _ rfl).1
  have vl:=hbn.lt
  have el:=hEn.lt
  obtain⟨y3,g3⟩:=hEn.cel.2 3 _ rfl
  obtain⟨y4,g4⟩:=hEn.cel.2 4 _ rfl
  obtain⟨y5,g5⟩:=hEn.cel.2 5 _ rfl
  have hri3:=hri2.out
  obtain⟨zb,hzb⟩:∃ zb,rn.toList.isEmpty=zb:=⟨_,rfl⟩
  go_upto_if 67 with fail
  have hzd:zb=decide (rn.size=0):=by rw [← hzb,sz_iff]
  clear hzb
  go_cut [73] (fun _ wx=>∃ O:Int,Blk wx (w.heap.size+1) 30 [.int .i64 kd,.int .i64 p,.int .i64 fr,.string rn,.int .i64 ri,.int .i64 O,.int .i64 n,.int .i64 (n+m.c.len)]∧Blk wx w.heap.size 81 m.cells∧Gr w wx∧Hid (evO m.c bf n=if rb && okC m.c then some ⟨kd,p,fr,rn,ri,O,n,n+m.c.len⟩ else none))
  case first=>
   by_cases hz:rn.size=0
   ·obtain rfl:zb=true:=by rw [hzd,decide_eq_true hz]
    clear hzd
    have hev2:Hid (evO m.c bf n=if rb && okC m.c then some ⟨kd,p,fr,rn,ri,0,n,n+m.c.len⟩ else none):=Lib.hid (by
     rw [hev.out,hrb]
     unfold mkE
     rw [hrn,hri,if_pos hz])
    go_wp2
    go_meet
    exact⟨0,hEn,hbn,hgn,hev2⟩
   ·obtain rfl:zb=false:=by rw [hzd,decide_eq_false hz]
    clear hzd
    have hev2:Hid (evO m.c bf n=if rb && okC m.c then some ⟨kd,p,fr,rn,ri,ri+m.c.len,n,n+m.c.len⟩ else none):=Lib.hid (by
     rw [hev.out,hrb]
     unfold mkE
     rw [hrn,hri,if_neg hz])
    go_wp2
    go_meet
    exact⟨ri+m.c.len,hEn.set 5 _,hbn.other (by simp) _,Gr.setCell hgn (by simp) _,hev2⟩
  case rest=>
   obtain⟨O,hEx,hbx,hgx,hev2⟩:=hcut
   clear hEn hbn hgn v0 vl el y3 g3 y4 g4 y5 g5 hri3 hri2 hev
   have i21:m.cells[21]?=some (.slice ac m.c.ch.length cpc):=by rw [← hcv];rfl
   go_upto_region 17 with fail
   try trace_state
   refine wp_region_still (Keep 13 (fun y=>Blk y w.heap.size 81 m.cells∧Blk y (w.heap.size+1) 30 [.int .i64 kd,.int .i64 p,.int .i64 fr,.string rn,.int .i64 ri,.int .i64 O,.int .i64 n,.int .i64 (n+m.c.len)])) 15 rfl (by kernel_rfl) ?_
   show stillAny _ _ _ _ _ _ #[false,false,false,false,false,false,false,false,false,false,false,false,false,false,false] _ _
   have hbU:=hbx.gr ((Gr.refl wc).drew)
   have hEU:=hEx.gr ((Gr.refl wc).drew)
   have hgU:=hgx.drew
   clear hbx hEx hgx
   generalize wc.drew=U at *
   cases rb with
   | false=>
    have ck:True:=trivial
    refine still_pure 0 (v:=.agg #[.int .i64 kd,.int .i64 p,.int .i64 fr,.string rn,.int .i64 ri,.int .i64 O,.int .i64 n,.int .i64 (n+m.c.len)]) rfl (by kernel_rfl) (by kernel_rfl) (by kernel_rfl) (fun _=>⟨hbU,hEU⟩) rfl (fun w hw=>?_) ?_
    ·replace hw:=hw (by decide)
     have hq0:=hw.2.lt
     have hq1:=(hw.2.cel.2 0 _ rfl).1
     have hq2:=(hw.2.cel.2 1 _ rfl).1
     have hq3:=(hw.2.cel.2 2 _ rfl).1
     have hq4:=(hw.2.cel.2 3 _ rfl).1
     have hq5:=(hw.2.cel.2 4 _ rfl).1
     have hq6:=(hw.2.cel.2 5 _ rfl).1
     have hq7:=(hw.2.cel.2 6 _ rfl).1
     have hq8:=(hw.2.cel.2 7 _ rfl).1
     (try simp at hq0 hq1 hq2 hq3 hq4 hq5 hq6 hq7 hq8)
     simp [execOp,go_sem,hq0,hq1,hq2,hq3,hq4,hq5,hq6,hq7,hq8]
    simp only [Act.put,zG,zH,zK,zI,zS,zZ]
    refine still_pure 1 (v:=.bool false) rfl (by kernel_rfl) (by kernel_rfl) (by kernel_rfl) (fun _=>⟨hbU,hEU⟩) rfl (fun w hw=>?_) ?_
    ·simp [execOp,go_sem] <;> (intros;omega)
    simp only [Act.put,zG,zH,zK,zI,zS,zZ]
    refine still_pure 2 (v:=.bool false) rfl (by kernel_rfl) (by kernel_rfl) (by kernel_rfl) (fun _=>⟨hbU,hEU⟩) rfl (fun w hw=>?_) ?_
    ·simp [execOp,go_sem] <;> (intros;omega)
    simp only [Act.put,zG,zH,zK,zI,zS,zZ]
    refine still_unwanted 3 rfl (by kernel_rfl) (by kernel_rfl) (by kernel_rfl) (fun _=>⟨hbU,hEU⟩) rfl rfl rfl rfl ?_
    simp only [Act.put,zG,zH,zK,zI,zS,zZ]
    refine still_unwanted 4 rfl (by kernel_rfl) (by kernel_rfl) (by kernel_rfl) (fun _=>⟨hbU,hEU⟩) rfl rfl rfl rfl ?_
    simp only [Act.put,zG,zH,zK,zI,zS,zZ]
    refine still_unwanted 5 rfl (by kernel_rfl) (by kernel_rfl) (by kernel_rfl) (fun _=>⟨hbU,hEU⟩) rfl rfl rfl rfl ?_
    simp only [Act.put,zG,zH,zK,zI,zS,zZ]
    refine still_pure 6 (v:=.bool false) rfl (by kernel_rfl) (by kernel_rfl) (by kernel_rfl) (fun _=>⟨hbU,hEU⟩) rfl (fun w hw=>?_) ?_
    ·simp [execOp,go_sem] <;> (intros;omega)
    simp only [Act.put,zG,zH,zK,zI,zS,zZ]
    refine still_pure 7 (v:=.bool false) rfl (by kernel_rfl) (by kernel_rfl) (by kernel_rfl) (fun _=>⟨hbU,hEU⟩) rfl (fun w hw=>?_) ?_
    ·simp [execOp,go_sem] <;> (intros;omega)
    simp only [Act.put,zG,zH,zK,zI,zS,zZ]
    refine still_unwanted 8 rfl (by kernel_rfl) (by kernel_rfl) (by kernel_rfl) (fun _=>⟨hbU,hEU⟩) rfl rfl rfl rfl ?_
    simp only [Act.put,zG,zH,zK,zI,zS,zZ]
    refine still_unwanted 9 rfl (by kernel_rfl) (by kernel_rfl) (by kernel_rfl) (fun _=>⟨hbU,hEU⟩) rfl rfl rfl rfl ?_
    simp only [Act.put,zG,zH,zK,zI,zS,zZ]
    refine still_unwanted 10 rfl (by kernel_rfl) (by kernel_rfl) (by kernel_rfl) (fun _=>⟨hbU,hEU⟩) rfl rfl rfl rfl ?_
    simp only [Act.put,zG,zH,zK,zI,zS,zZ]
    refine still_unwanted 11 rfl (by kernel_rfl) (by kernel_rfl) (by kernel_rfl) (fun _=>⟨hbU,hEU⟩) rfl rfl rfl rfl ?_
    simp only [Act.put,zG,zH,zK,zI,zS,zZ]
    refine still_pure 12 (v:=.bool false) rfl (by kernel_rfl) (by kernel_rfl) (by kernel_rfl) (fun _=>⟨hbU,hEU⟩) rfl (fun w hw=>?_) ?_
    ·simp [execOp,go_sem] <;> (intros;omega)
    simp only [Act.put,zG,zH,zK,zI,zS,zZ]
    obtain⟨z0,f0⟩:=hEU.cel.2 0 _ rfl
    obtain⟨z1,f1⟩:=hEU.cel.2 1 _ rfl
    obtain⟨z2,f2⟩:=hEU.cel.2 2 _ rfl
    obtain⟨z3,f3⟩:=hEU.cel.2 3 _ rfl
    obtain⟨z4,f4⟩:=hEU.cel.2 4 _ rfl
    obtain⟨z5,f5⟩:=hEU.cel.2 5 _ rfl
    obtain⟨z6,f6⟩:=hEU.cel.2 6 _ rfl
    obtain⟨z7,f7⟩:=hEU.cel.2 7 _ rfl
    have zl:=hEU.lt
    refine still_next (j:=13) (by kernel_rfl) (by rfl) (fun R hR=>?_)
    (try simp only [zG,zH,zK])
    go_wp2_with fail
    refine only_normal (hR _ _ (Keep.step (fun h=>⟨by repeat (first | (with_reducible exact h.1) | (with_reducible refine Blk.other ?_ (by simp) _)),(((((((h.2.set 0 _).set 1 _).set 2 _).set 3 _).set 4 _).set 5 _).set 6 _).set 7 _⟩)) ?_)
    clear hR R
    simp only [Act.put,zG,zH,zK,zI,zS,zZ]
    refine still_next (j:=14) (by kernel_rfl) (by rfl) (fun R hR=>?_)
    (try simp only [zG,zH,zK])
    go_wp2_with fail
    refine only_normal (hR _ _ (Keep.step (fun h=>h)) ?_)
    clear hR R
    simp only [Act.put,zG,zH,zK,zI,zS,zZ]
    refine still_done (by kernel_rfl) ?_
    (try simp only [zG,zH,zK,zI,zS,zZ])
    go_wp2
    simp [bodyPost,results,Tryz.results52,go_sem,z0,z1,z2,z3,z4,z5,z6,z7]
    refine⟨⟨⟨kd,p,fr,rn,ri,O,n,n+m.c.len⟩,rfl⟩,?_,?_⟩
    ·repeat (first | (with_reducible exact hgU) | (with_reducible refine Gr.setCell ?_ (show w.heap.size≤w.heap.size+1 by omega) _))
    ·rw [hev2.out];simp [okC,ck]
   | true=>
    by_cases cg0:m.c.gain=0
    ·have cg:(m.c.gain == 0)=true:=by simp [cg0]
     by_cases cl0:m.c.ch=[]
     ·have cl:((m.c.ch.length:Int) == 0)=true:=by simp [cl0]
      have ck:=And.intro cg0 cl0
      clear cg0 cl0
      refine still_pure 0 (v:=.agg #[.int .i64 kd,.int .i64 p,.int .i64 fr,.string rn,.int .i64 ri,.int .i64 O,.int .i64 n,.int .i64 (n+m.c.len)]) rfl (by kernel_rfl) (by kernel_rfl) (by kernel_rfl) (fun _=>⟨hbU,hEU⟩) rfl (fun w hw=>?_) ?_
      ·replace hw:=hw (by decide)
       have hq0:=hw.2.lt
       have hq1:=(hw.2.cel.2 0 _ rfl).1
       have hq2:=(hw.2.cel.2 1 _ rfl).1
       have hq3:=(hw.2.cel.2 2 _ rfl).1
       have hq4:=(hw.2.cel.2 3 _ rfl).1
       have hq5:=(hw.2.cel.2 4 _ rfl).1
       have hq6:=(hw.2.cel.2 5 _ rfl).1
       have hq7:=(hw.2.cel.2 6 _ rfl).1
       have hq8:=(hw.2.cel.2 7 _ rfl).1
       (try simp at hq0 hq1 hq2 hq3 hq4 hq5 hq6 hq7 hq8)
       simp [execOp,go_sem,hq0,hq1,hq2,hq3,hq4,hq5,hq6,hq7,hq8]
      simp only [Act.put,zG,zH,zK,zI,zS,zZ]
      refine still_pure 1 (v:=.bool true) rfl (by kernel_rfl) (by kernel_rfl) (by kernel_rfl) (fun _=>⟨hbU,hEU⟩) rfl (fun w hw=>?_) ?_
      ·simp [execOp,go_sem] <;> (intros;omega)
      simp only [Act.put,zG,zH,zK,zI,zS,zZ]
      refine still_pure 2 (v:=.bool true) rfl (by kernel_rfl) (by kernel_rfl) (by kernel_rfl) (fun _=>⟨hbU,hEU⟩) rfl (fun w hw=>?_) ?_
      ·simp [execOp,go_sem] <;> (intros;omega)
      simp only [Act.put,zG,zH,zK,zI,zS,zZ]
      refine still_wanted 3 (v:=.pointer (some ⟨w.heap.size,20,none⟩)) rfl (by kernel_rfl) (by kernel_rfl) (by kernel_rfl) (fun _=>⟨hbU,hEU⟩) rfl rfl rfl rfl (fun w hw=>?_) ?_
      ·simp [execOp,go_sem] <;> (intros;omega)
      simp only [Act.put,zG,zH,zK,zI,zS,zZ]
      refine still_wanted 4 (v:=.int .i64 m.c.gain) rfl (by kernel_rfl) (by kernel_rfl) (by kernel_rfl) (fun _=>⟨hbU,hEU⟩) rfl rfl rfl rfl (fun w hw=>?_) ?_
      ·replace hw:=hw (by decide)
       have hq0:=hw.1.lt
       have hq1:=(hw.1.cel.2 20 _ rfl).1
       (try simp at hq0 hq1)
       simp [execOp,go_sem,hq0,hq1]
      simp only [Act.put,zG,zH,zK,zI,zS,zZ]
      refine still_wanted 5 (v:=.bool true) rfl (by kernel_rfl) (by kernel_rfl) (by kernel_rfl) (fun _=>⟨hbU,hEU⟩) rfl rfl rfl rfl (fun w hw=>?_) ?_
      ·replace hw:=hw (by decide)
       have hq0:=cg
       (try simp at hq0)
       simp [execOp,go_sem,hq0]
      simp only [Act.put,zG,zH,zK,zI,zS,zZ]
      refine still_pure 6 (v:=.bool true) rfl (by kernel_rfl) (by kernel_rfl) (by kernel_rfl) (fun _=>⟨hbU,hEU⟩) rfl (fun w hw=>?_) ?_
      ·simp [execOp,go_sem] <;> (intros;omega)
      simp only [Act.put,zG,zH,zK,zI,zS,zZ]
      refine still_pure 7 (v:=.bool true) rfl (by kernel_rfl) (by kernel_rfl) (by kernel_rfl) (fun _=>⟨hbU,hEU⟩) rfl (fun w hw=>?_) ?_
      ·simp [execOp,go_sem] <;> (intros;omega)
      simp only [Act.put,zG,zH,zK,zI,zS,zZ]
      refine still_wanted 8 (v:=.pointer (some ⟨w.heap.size,21,none⟩)) rfl (by kernel_rfl) (by kernel_rfl) (by kernel_rfl) (fun _=>⟨hbU,hEU⟩) rfl rfl rfl rfl (fun w hw=>?_) ?_
      ·simp [execOp,go_sem] <;> (intros;omega)
      simp only [Act.put,zG,zH,zK,zI,zS,zZ]
      refine still_wanted 9 (v:=.slice ac m.c.ch.length cpc) rfl (by kernel_rfl) (by kernel_rfl) (by kernel_rfl) (fun _=>⟨hbU,hEU⟩) rfl rfl rfl rfl (fun w hw=>?_) ?_
      ·replace hw:=hw (by decide)
       have hq0:=hw.1.lt
       have hq1:=(hw.1.cel.2 21 _ i21).1
       (try simp at hq0 hq1)
       simp [execOp,go_sem,hq0,hq1]
      simp only [Act.put,zG,zH,zK,zI,zS,zZ]
      refine still_wanted 10 (v:=.int .i64 m.c.ch.length) rfl (by kernel_rfl) (by kernel_rfl) (by kernel_rfl) (fun _=>⟨hbU,hEU⟩) rfl rfl rfl rfl (fun w hw=>?_) ?_
      ·simp [execOp,go_sem] <;> (intros;omega)
      simp only [Act.put,zG,zH,zK,zI,zS,zZ]
      refine still_wanted 11 (v:=.bool true) rfl (by kernel_rfl) (by kernel_rfl) (by kernel_rfl) (fun _=>⟨hbU,hEU⟩) rfl rfl rfl rfl (fun w hw=>?_) ?_
      ·replace hw:=hw (by decide)
       have hq0:=cl
       (try simp at hq0)
       simp [execOp,go_sem,hq0]
      simp only [Act.put,zG,zH,zK,zI,zS,zZ]
      refine still_pure 12 (v:=.bool true) rfl (by kernel_rfl) (by kernel_rfl) (by kernel_rfl) (fun _=>⟨hbU,hEU⟩) rfl (fun w hw=>?_) ?_
      ·simp [execOp,go_sem] <;> (intros;omega)
      simp only [Act.put,zG,zH,zK,zI,zS,zZ]
      obtain⟨z0,f0⟩:=hEU.cel.2 0 _ rfl
      obtain⟨z1,f1⟩:=hEU.cel.2 1 _ rfl
      obtain⟨z2,f2⟩:=hEU.cel.2 2 _ rfl
      obtain⟨z3,f3⟩:=hEU.cel.2 3 _ rfl
      obtain⟨z4,f4⟩:=hEU.cel.2 4 _ rfl
      obtain⟨z5,f5⟩:=hEU.cel.2 5 _ rfl
      obtain⟨z6,f6⟩:=hEU.cel.2 6 _ rfl
      obtain⟨z7,f7⟩:=hEU.cel.2 7 _ rfl
      have zl:=hEU.lt
      refine still_next (j:=13) (by kernel_rfl) (by rfl) (fun R hR=>?_)
      (try simp only [zG,zH,zK])
      go_wp2_with fail
      refine only_normal (hR _ _ (Keep.step (fun h=>⟨by repeat (first | (with_reducible exact h.1) | (with_reducible refine Blk.other ?_ (by simp) _)),(((((((h.2.set 0 _).set 1 _).set 2 _).set 3 _).set 4 _).set 5 _).set 6 _).set 7 _⟩)) ?_)
      clear hR R
      simp only [Act.put,zG,zH,zK,zI,zS,zZ]
      refine still_next (j:=14) (by kernel_rfl) (by rfl) (fun R hR=>?_)
      (try simp only [zG,zH,zK])
      go_wp2_with fail
      refine only_normal (hR _ _ (Keep.step (fun h=>h)) ?_)
      clear hR R
      simp only [Act.put,zG,zH,zK,zI,zS,zZ]
      refine still_done (by kernel_rfl) ?_
      (try simp only [zG,zH,zK,zI,zS,zZ])
      go_wp2
      simp [bodyPost,results,Tryz.results52,go_sem,z0,z1,z2,z3,z4,z5,z6,z7]
      refine⟨⟨kd,p,fr,rn,ri,O,n,n+m.c.len⟩,rfl,?_,?_⟩
      ·repeat (first | (with_reducible exact hgU) | (with_reducible refine Gr.setCell ?_ (show w.heap.size≤w.heap.size+1 by omega) _))
      ·rw [hev2.out];simp [okC,ck]
     ·have cl:((m.c.ch.length:Int) == 0)=false:=by simp [cl0]
      have ck:¬ (m.c.gain=0∧m.c.ch=[]):=fun e=>cl0 e.2
      clear cg0 cl0
      refine still_pure 0 (v:=.agg #[.int .i64 kd,.int .i64 p,.int .i64 fr,.string rn,.int .i64 ri,.int .i64 O,.int .i64 n,.int .i64 (n+m.c.len)]) rfl (by kernel_rfl) (by kernel_rfl) (by kernel_rfl) (fun _=>⟨hbU,hEU⟩) rfl (fun w hw=>?_) ?_
      ·replace hw:=hw (by decide)
       have hq0:=hw.2.lt
       have hq1:=(hw.2.cel.2 0 _ rfl).1
       have hq2:=(hw.2.cel.2 1 _ rfl).1
       have hq3:=(hw.2.cel.2 2 _ rfl).1
       have hq4:=(hw.2.cel.2 3 _ rfl).1
       have hq5:=(hw.2.cel.2 4 _ rfl).1
       have hq6:=(hw.2.cel.2 5 _ rfl).1
       have hq7:=(hw.2.cel.2 6 _ rfl).1
       have hq8:=(hw.2.cel.2 7 _ rfl).1
       (try simp at hq0 hq1 hq2 hq3 hq4 hq5 hq6 hq7 hq8)
       simp [execOp,go_sem,hq0,hq1,hq2,hq3,hq4,hq5,hq6,hq7,hq8]
      simp only [Act.put,zG,zH,zK,zI,zS,zZ]
      refine still_pure 1 (v:=.bool true) rfl (by kernel_rfl) (by kernel_rfl) (by kernel_rfl) (fun _=>⟨hbU,hEU⟩) rfl (fun w hw=>?_) ?_
      ·simp [execOp,go_sem] <;> (intros;omega)
      simp only [Act.put,zG,zH,zK,zI,zS,zZ]
      refine still_pure 2 (v:=.bool true) rfl (by kernel_rfl) (by kernel_rfl) (by kernel_rfl) (fun _=>⟨hbU,hEU⟩) rfl (fun w hw=>?_) ?_
      ·simp [execOp,go_sem] <;> (intros;omega)
      simp only [Act.put,zG,zH,zK,zI,zS,zZ]
      refine still_wanted 3 (v:=.pointer (some ⟨w.heap.size,20,none⟩)) rfl (by kernel_rfl) (by kernel_rfl) (by kernel_rfl) (fun _=>⟨hbU,hEU⟩) rfl rfl rfl rfl (fun w hw=>?_) ?_
      ·simp [execOp,go_sem] <;> (intros;omega)
      simp only [Act.put,zG,zH,zK,zI,zS,zZ]
      refine still_wanted 4 (v:=.int .i64 m.c.gain) rfl (by kernel_rfl) (by kernel_rfl) (by kernel_rfl) (fun _=>⟨hbU,hEU⟩) rfl rfl rfl rfl (fun w hw=>?_) ?_
      ·replace hw:=hw (by decide)
       have hq0:=hw.1.lt
       have hq1:=(hw.1.cel.2 20 _ rfl).1
       (try simp at hq0 hq1)
       simp [execOp,go_sem,hq0,hq1]
      simp only [Act.put,zG,zH,zK,zI,zS,zZ]
      refine still_wanted 5 (v:=.bool true) rfl (by kernel_rfl) (by kernel_rfl) (by kernel_rfl) (fun _=>⟨hbU,hEU⟩) rfl rfl rfl rfl (fun w hw=>?_) ?_
      ·replace hw:=hw (by decide)
       have hq0:=cg
       (try simp at hq0)
       simp [execOp,go_sem,hq0]
      simp only [Act.put,zG,zH,zK,zI,zS,zZ]
      refine still_pure 6 (v:=.bool true) rfl (by kernel_rfl) (by kernel_rfl) (by kernel_rfl) (fun _=>⟨hbU,hEU⟩) rfl (fun w hw=>?_) ?_
      ·simp [execOp,go_sem] <;> (intros;omega)
      simp only [Act.put,zG,zH,zK,zI,zS,zZ]
      refine still_pure 7 (v:=.bool true) rfl (by kernel_rfl) (by kernel_rfl) (by kernel_rfl) (fun _=>⟨hbU,hEU⟩) rfl (fun w hw=>?_) ?_
      ·simp [execOp,go_sem] <;> (intros;omega)
      simp only [Act.put,zG,zH,zK,zI,zS,zZ]
      refine still_wanted 8 (v:=.pointer (some ⟨w.heap.size,21,none⟩)) rfl (by kernel_rfl) (by kernel_rfl) (by kernel_rfl) (fun _=>⟨hbU,hEU⟩) rfl rfl rfl rfl (fun w hw=>?_) ?_
      ·simp [execOp,go_sem] <;> (intros;omega)
      simp only [Act.put,zG,zH,zK,zI,zS,zZ]
      refine still_wanted 9 (v:=.slice ac m.c.ch.length cpc) rfl (by kernel_rfl) (by kernel_rfl) (by kernel_rfl) (fun _=>⟨hbU,hEU⟩) rfl rfl rfl rfl (fun w hw=>?_) ?_
      ·replace hw:=hw (by decide)
       have hq0:=hw.1.lt
       have hq1:=(hw.1.cel.2 21 _ i21).1
       (try simp at hq0 hq1)
       simp [execOp,go_sem,hq0,hq1]
      simp only [Act.put,zG,zH,zK,zI,zS,zZ]
      refine still_wanted 10 (v:=.int .i64 m.c.ch.length) rfl (by kernel_rfl) (by kernel_rfl) (by kernel_rfl) (fun _=>⟨hbU,hEU⟩) rfl rfl rfl rfl (fun w hw=>?_) ?_
      ·simp [execOp,go_sem] <;> (intros;omega)
      simp only [Act.put,zG,zH,zK,zI,zS,zZ]
      refine still_wanted 11 (v:=.bool false) rfl (by kernel_rfl) (by kernel_rfl) (by kernel_rfl) (fun _=>⟨hbU,hEU⟩) rfl rfl rfl rfl (fun w hw=>?_) ?_
      ·replace hw:=hw (by decide)
       have hq0:=cl
       (try simp at hq0)
       simp [execOp,go_sem,hq0]
      simp only [Act.put,zG,zH,zK,zI,zS,zZ]
      refine still_pure 12 (v:=.bool false) rfl (by kernel_rfl) (by kernel_rfl) (by kernel_rfl) (fun _=>⟨hbU,hEU⟩) rfl (fun w hw=>?_) ?_
      ·simp [execOp,go_sem] <;> (intros;omega)
      simp only [Act.put,zG,zH,zK,zI,zS,zZ]
      obtain⟨z0,f0⟩:=hEU.cel.2 0 _ rfl
      obtain⟨z1,f1⟩:=hEU.cel.2 1 _ rfl
      obtain⟨z2,f2⟩:=hEU.cel.2 2 _ rfl
      obtain⟨z3,f3⟩:=hEU.cel.2 3 _ rfl
      obtain⟨z4,f4⟩:=hEU.cel.2 4 _ rfl
      obtain⟨z5,f5⟩:=hEU.cel.2 5 _ rfl
      obtain⟨z6,f6⟩:=hEU.cel.2 6 _ rfl
      obtain⟨z7,f7⟩:=hEU.cel.2 7 _ rfl
      have zl:=hEU.lt
      refine still_next (j:=13) (by kernel_rfl) (by rfl) (fun R hR=>?_)
      (try simp only [zG,zH,zK])
      go_wp2_with fail
      refine only_normal (hR _ _ (Keep.step (fun h=>⟨by repeat (first | (with_reducible exact h.1) | (with_reducible refine Blk.other ?_ (by simp) _)),(((((((h.2.set 0 _).set 1 _).set 2 _).set 3 _).set 4 _).set 5 _).set 6 _).set 7 _⟩)) ?_)
      clear hR R
      simp only [Act.put,zG,zH,zK,zI,zS,zZ]
      refine still_next (j:=14) (by kernel_rfl) (by rfl) (fun R hR=>?_)
      (try simp only [zG,zH,zK])
      go_wp2_with fail
      refine only_normal (hR _ _ (Keep.step (fun h=>h)) ?_)
      clear hR R
      simp only [Act.put,zG,zH,zK,zI,zS,zZ]
      refine still_done (by kernel_rfl) ?_
      (try simp only [zG,zH,zK,zI,zS,zZ])
      go_wp2
      simp [bodyPost,results,Tryz.results52,go_sem,z0,z1,z2,z3,z4,z5,z6,z7]
      refine⟨⟨⟨kd,p,fr,rn,ri,O,n,n+m.c.len⟩,rfl⟩,?_,?_⟩
      ·repeat (first | (with_reducible exact hgU) | (with_reducible refine Gr.setCell ?_ (show w.heap.size≤w.heap.size+1 by omega) _))
      ·rw [hev2.out];simp [okC,ck]
    ·have cg:(m.c.gain == 0)=false:=by simp [cg0]
     have ck:¬ (m.c.gain=0∧m.c.ch=[]):=fun e=>cg0 e.1
     clear cg0
     refine still_pure 0 (v:=.agg #[.int .i64 kd,.int .i64 p,.int .i64 fr,.string rn,.int .i64 ri,.int .i64 O,.int .i64 n,.int .i64 (n+m.c.len)]) rfl (by kernel_rfl) (by kernel_rfl) (by kernel_rfl) (fun _=>⟨hbU,hEU⟩) rfl (fun w hw=>?_) ?_
     ·replace hw:=hw (by decide)
      have hq0:=hw.2.lt
      have hq1:=(hw.2.cel.2 0 _ rfl).1
      have hq2:=(hw.2.cel.2 1 _ rfl).1
      have hq3:=(hw.2.cel.2 2 _ rfl).1
      have hq4:=(hw.2.cel.2 3 _ rfl).1
      have hq5:=(hw.2.cel.2 4 _ rfl).1
      have hq6:=(hw.2.cel.2 5 _ rfl).1
      have hq7:=(hw.2.cel.2 6 _ rfl).1
      have hq8:=(hw.2.cel.2 7 _ rfl).1
      (try simp at hq0 hq1 hq2 hq3 hq4 hq5 hq6 hq7 hq8)
      simp [execOp,go_sem,hq0,hq1,hq2,hq3,hq4,hq5,hq6,hq7,hq8]
     simp only [Act.put,zG,zH,zK,zI,zS,zZ]
     refine still_pure 1 (v:=.bool true) rfl (by kernel_rfl) (by kernel_rfl) (by kernel_rfl) (fun _=>⟨hbU,hEU⟩) rfl (fun w hw=>?_) ?_
     ·simp [execOp,go_sem] <;> (intros;omega)
     simp only [Act.put,zG,zH,zK,zI,zS,zZ]
     refine still_pure 2 (v:=.bool true) rfl (by kernel_rfl) (by kernel_rfl) (by kernel_rfl) (fun _=>⟨hbU,hEU⟩) rfl (fun w hw=>?_) ?_
     ·simp [execOp,go_sem] <;> (intros;omega)
     simp only [Act.put,zG,zH,zK,zI,zS,zZ]
     refine still_wanted 3 (v:=.pointer (some ⟨w.heap.size,20,none⟩)) rfl (by kernel_rfl) (by kernel_rfl) (by kernel_rfl) (fun _=>⟨hbU,hEU⟩) rfl rfl rfl rfl (fun w hw=>?_) ?_
     ·simp [execOp,go_sem] <;> (intros;omega)
     simp only [Act.put,zG,zH,zK,zI,zS,zZ]
     refine still_wanted 4 (v:=.int .i64 m.c.gain) rfl (by kernel_rfl) (by kernel_rfl) (by kernel_rfl) (fun _=>⟨hbU,hEU⟩) rfl rfl rfl rfl (fun w hw=>?_) ?_
     ·replace hw:=hw (by decide)
      have hq0:=hw.1.lt
      have hq1:=(hw.1.cel.2 20 _ rfl).1
      (try simp at hq0 hq1)
      simp [execOp,go_sem,hq0,hq1]
     simp only [Act.put,zG,zH,zK,zI,zS,zZ]
     refine still_wanted 5 (v:=.bool false) rfl (by kernel_rfl) (by kernel_rfl) (by kernel_rfl) (fun _=>⟨hbU,hEU⟩) rfl rfl rfl rfl (fun w hw=>?_) ?_
     ·replace hw:=hw (by decide)
      have hq0:=cg
      (try simp at hq0)
      simp [execOp,go_sem,hq0]
     simp only [Act.put,zG,zH,zK,zI,zS,zZ]
     refine still_pure 6 (v:=.bool false) rfl (by kernel_rfl) (by kernel_rfl) (by kernel_rfl) (fun _=>⟨hbU,hEU⟩) rfl (fun w hw=>?_) ?_
     ·simp [execOp,go_sem] <;> (intros;omega)
     simp only [Act.put,zG,zH,zK,zI,zS,zZ]
     refine still_pure 7 (v:=.bool false) rfl (by kernel_rfl) (by kernel_rfl) (by kernel_rfl) (fun _=>⟨hbU,hEU⟩) rfl (fun w hw=>?_) ?_
     ·simp [execOp,go_sem] <;> (intros;omega)
     simp only [Act.put,zG,zH,zK,zI,zS,zZ]
     refine still_unwanted 8 rfl (by kernel_rfl) (by kernel_rfl) (by kernel_rfl) (fun _=>⟨hbU,hEU⟩) rfl rfl rfl rfl ?_
     simp only [Act.put,zG,zH,zK,zI,zS,zZ]
     refine still_unwanted 9 rfl (by kernel_rfl) (by kernel_rfl) (by kernel_rfl) (fun _=>⟨hbU,hEU⟩) rfl rfl rfl rfl ?_
     simp only [Act.put,zG,zH,zK,zI,zS,zZ]
     refine still_unwanted 10 rfl (by kernel_rfl) (by kernel_rfl) (by kernel_rfl) (fun _=>⟨hbU,hEU⟩) rfl rfl rfl rfl ?_
     simp only [Act.put,zG,zH,zK,zI,zS,zZ]
     refine still_unwanted 11 rfl (by kernel_rfl) (by kernel_rfl) (by kernel_rfl) (fun _=>⟨hbU,hEU⟩) rfl rfl rfl rfl ?_
     simp only [Act.put,zG,zH,zK,zI,zS,zZ]
     refine still_pure 12 (v:=.bool false) rfl (by kernel_rfl) (by kernel_rfl) (by kernel_rfl) (fun _=>⟨hbU,hEU⟩) rfl (fun w hw=>?_) ?_
     ·simp [execOp,go_sem] <;> (intros;omega)
     simp only [Act.put,zG,zH,zK,zI,zS,zZ]
     obtain⟨z0,f0⟩:=hEU.cel.2 0 _ rfl
     obtain⟨z1,f1⟩:=hEU.cel.2 1 _ rfl
     obtain⟨z2,f2⟩:=hEU.cel.2 2 _ rfl
     obtain⟨z3,f3⟩:=hEU.cel.2 3 _ rfl
     obtain⟨z4,f4⟩:=hEU.cel.2 4 _ rfl
     obtain⟨z5,f5⟩:=hEU.cel.2 5 _ rfl
     obtain⟨z6,f6⟩:=hEU.cel.2 6 _ rfl
     obtain⟨z7,f7⟩:=hEU.cel.2 7 _ rfl
     have zl:=hEU.lt
     refine still_next (j:=13) (by kernel_rfl) (by rfl) (fun R hR=>?_)
     (try simp only [zG,zH,zK])
     go_wp2_with fail
     refine only_normal (hR _ _ (Keep.step (fun h=>⟨by repeat (first | (with_reducible exact h.1) | (with_reducible refine Blk.other ?_ (by simp) _)),(((((((h.2.set 0 _).set 1 _).set 2 _).set 3 _).set 4 _).set 5 _).set 6 _).set 7 _⟩)) ?_)
     clear hR R
     simp only [Act.put,zG,zH,zK,zI,zS,zZ]
     refine still_next (j:=14) (by kernel_rfl) (by rfl) (fun R hR=>?_)
     (try simp only [zG,zH,zK])
     go_wp2_with fail
     refine only_normal (hR _ _ (Keep.step (fun h=>h)) ?_)
     clear hR R
     simp only [Act.put,zG,zH,zK,zI,zS,zZ]
     refine still_done (by kernel_rfl) ?_
     (try simp only [zG,zH,zK,zI,zS,zZ])
     go_wp2
     simp [bodyPost,results,Tryz.results52,go_sem,z0,z1,z2,z3,z4,z5,z6,z7]
     refine⟨⟨⟨kd,p,fr,rn,ri,O,n,n+m.c.len⟩,rfl⟩,?_,?_⟩
     ·repeat (first | (with_reducible exact hgU) | (with_reducible refine Gr.setCell ?_ (show w.heap.size≤w.heap.size+1 by omega) _))
     ·rw [hev2.out];simp [okC,ck]
theorem eevent_any (m:CM) (es:List Ev) (v:Value) (n:Int) (w:World) (hch:ChR w m) (h:EvsR w v es) (hn:es.length≤1000000) (hl:1≤m.c.len∧m.c.len≤2147483647) (h0:0≤n) (h1:n≤1099511627776)
  (ha:-4611686018427387904≤m.c.a.an∧m.c.a.an≤4611686018427387904) (hb:-4611686018427387904≤m.c.b.an∧m.c.b.an≤4611686018427387904) :
  Calls Tryz.prog 52 #[m.val,v,.int .i64 n] w fun e w'=>∃ (x:Ev) (B:Bool),e=.returned (.tuple #[x.val,.bool B])∧Gr w w'∧((B=true∧evO m.c (bfR es.reverse n) n=some x)∨(B=false∧evO m.c (bfR es.reverse n) n=none)):=
 eevent_core 7 rfl m es v n w hch h hn hl h0 h1 ha hb
structure Kp (W:World) (L:Nat) (wr:World):Prop where
 sz:W.heap.size≤wr.heap.size
 at_:∀ b o,b<W.heap.size→¬ (b=L∧o=3)→wr.cell? ⟨b,o,none⟩=W.cell? ⟨b,o,none⟩
theorem Kp.refl (W:World) (L:Nat):Kp W L W:=⟨Nat.le_refl _,fun _ _ _ _=>rfl⟩
theorem Kp.gr {W:World} {L:Nat} {wr wx:World} (h:Kp W L wr) (hg:Gr wr wx):Kp W L wx:=
 ⟨Nat.le_trans h.sz hg.size,fun b o hb hn=>by rw [hg.cells.1 b o (Nat.lt_of_lt_of_le hb h.sz)];exact h.at_ b o hb hn⟩
theorem Kp.grown {W:World} {L g:Nat} {wr wx:World} (h:Kp W L wr) (hg:wr.grownBy wx (some g)) (hb:W.heap.size≤g):Kp W L wx:=by
 refine⟨Nat.le_trans h.sz hg.size,fun b o hb2 hn=>?_⟩
 rw [← h.at_ b o hb2 hn]
 exact World.cell?_of_block (a:=⟨b,o,none⟩) (hg.block b (Nat.lt_of_lt_of_le hb2 h.sz) (by intro e;injection e with e;omega))
theorem Kp.put {W:World} {L:Nat} {wr:World} (h:Kp W L wr) (u:Value):Kp W L (wr.setCell ⟨L,3,none⟩ u):=by
 refine⟨by simpa using h.sz,fun b o hb hn=>?_⟩
 rw [← h.at_ b o hb hn]
 exact World.cell?_setCell_other _ _ _ _ (by intro e;simp only [Addr.mk.injEq] at e;exact hn (by first | exact⟨e.1.symm,e.2.1.symm⟩ | exact⟨e.1,e.2.1⟩))
theorem Kp.rd {W:World} {L:Nat} {wr:World} (h:Kp W L wr) {v:Value} {n:Nat} {xs:List Value} (hr:Rd W v n 1 xs) (hL:∀ u,W.cell? ⟨L,3,none⟩=some u→u∉xs):Rd wr v n 1 xs:=by
 obtain⟨hl,a,cap,rfl,h0⟩:=hr
 refine⟨hl,a,cap,rfl,?_⟩
 rcases h0 with h0 | ⟨b,o,rfl,hb,hc⟩
 ·exact .inl h0
 ·refine .inr ⟨b,o,rfl,Nat.lt_of_lt_of_le hb h.sz,fun j u hu=>?_⟩
  have h1:=hc j u hu
  rw [h.at_ b _ hb fun e=>?_]
  ·exact h1
  ·obtain⟨e1,e2⟩:=e
   subst e1
   rw [e2] at h1
   exact hL u h1 (List.mem_of_getElem? hu)
theorem Kp.trk {W:World} {L:Nat} {wr:World} (h:Kp W L wr) {v:Value} {cs:List CM} (ht:TrR W v cs) {T:TypeId} {p q r s:Value} (hb:Blk W L T [p,q,r,s]) (hs:∀ y:Int,Value.int .i64 y≠s):TrR wr v cs:=by
 refine⟨?_,fun c hc=>h.rd (ht.ch c hc) fun u hu hm=>?_⟩
 ·obtain⟨hl,a,cap,rfl,h0⟩:=ht.rd
  refine⟨hl,a,cap,rfl,?_⟩
  rcases h0 with h0 | ⟨b,o,rfl,hlt,hc⟩
  ·exact .inl h0
  ·cases cs with
   | nil=>exact .inl ⟨rfl,fun e=>by cases e⟩
   | cons c cs=>
    refine .inr ⟨b,o,rfl,Nat.lt_of_lt_of_le hlt h.sz,fun j u hu=>?_⟩
    rw [h.at_ b _ hlt fun e=>?_]
    ·exact hc j u hu
    ·obtain⟨e1,_⟩:=e
     subst e1
     have h1:=hc 21 c.cv rfl
     rw [hb.cell] at h1
     rw [List.getElem?_eq_none (by simp)] at h1
     cases h1
 ·rw [hb.cell] at hu
  have hu:s=u:=by simpa using hu
  subst hu
  unfold intsV at hm
  obtain⟨y,_,hy⟩:=List.mem_map.1 hm
  exact hs y hy
def ofZ (w:World):World:=(w.alloc (.cells #[.string ⟨#[]⟩,.int .i64 0,.bool false,.slice none 0 0] 24)).alloc (.cells #[.int .i64 0] 36)
theorem ofZ_fin {w w1:World} (hg1:Gr (ofZ w) w1):Gr w w1∧Blk w1 w.heap.size 24 [.string ⟨#[]⟩,.int .i64 0,.bool false,.slice none 0 0]∧Blk w1 (w.heap.size+1) 36 [.int .i64 0]:=by
 unfold ofZ at hg1
 have k0:=(Blk.new w [.string ⟨#[]⟩,.int .i64 0,.bool false,.slice none 0 0] 24).gr ((Gr.refl _).alloc (.cells #[.int .i64 0] 36)) |>.gr hg1
 have k1:=(Blk.new (w.alloc (.cells #[.string ⟨#[]⟩,.int .i64 0,.bool false,.slice none 0 0] 24)) [.int .i64 0] 36).gr hg1
 simp at k1
 exact⟨(((Gr.refl w).alloc _).alloc _).trans hg1,k0,k1⟩
set_option maxRecDepth 20000 in
set_option maxHeartbeats 4000000 in
theorem eof_no (cs:List CM) (v:Value) (title:ByteArray) (base:Int) (drop:Bool) (w:World) (h:TrR w v cs) (hok:∀ c∈cs,ClOk c.c) (ht:title.size≤140737488355328)
  (hno:¬ (C19.okB base drop=true∧vtB (cs.map CM.c)=true∧vLine title=true)) :
  Calls Tryz.prog 20 #[v,.string title,.int .i64 base,.bool drop] w fun e w'=>e=.returned (.tuple #[.agg #[.string ⟨#[]⟩,.int .i64 0,.bool false,.slice none 0 0],.int .i64 1])∧Gr w w':=by
 have hmf:=hmf_any Tryz.prog
 have HV:Hid (∀ w',Gr w w'→Calls Tryz.prog 50 #[v] w' fun e w''=>e=.returned (.bool (vtB (cs.map CM.c)))∧Gr w' w''):=Lib.hid fun w' hg=>vtrack_any cs v w' (h.gr hg) hok
 have HT:Hid (∀ w',Calls Tryz.prog 36 #[.string title] w' fun e w''=>e=.returned (.bool (vLine title))∧Gr w' w''):=Lib.hid fun w'=>title_any title w' ht
 have HD:Hid (∃ d en:Int,(C19.okB base drop=true→en=0)∧(C19.okB base drop=false→en=1)∧∀ w',Calls Tryz.prog 35 #[.int .i64 base,.bool drop] w' fun e w''=>e=.returned (.tuple #[.int .i64 d,.int .i64 en])∧w'=w''):=Lib.hid (by
  cases ho:C19.okB base drop with
  | false=>exact⟨0,1,fun e=>(by cases e),fun _=>rfl,fun w'=>C19.day_no base drop w' ho⟩
  | true=>exact⟨C19.dayN base drop,0,fun _=>rfl,fun e=>(by cases e),fun w'=>C19.day_yes base drop w' ho⟩)
 obtain⟨d,en,hen0,hen1,HD⟩:=HD.out
 replace HD:=Lib.hid HD
 generalize vtB (cs.map CM.c)=bt at *
 generalize vLine title=bl at *
 have fin:=Lib.hid fun w1 (hg1:Gr (ofZ w) w1)=>ofZ_fin hg1
 unfold ofZ at fin
 have hway:bt=false∨(bt=true∧en=1)∨(bt=true∧en=0∧bl=false):=by
  cases bt with
  | false=>exact .inl rfl
  | true=>
   cases ho:C19.okB base drop with
   | false=>exact .inr (.inl ⟨rfl,hen1 ho⟩)
   | true=>
    cases bl with
    | false=>exact .inr (.inr ⟨rfl,hen0 ho,rfl⟩)
    | true=>exact absurd ⟨ho,rfl,rfl⟩ hno
 clear hno hen0 hen1 h hok ht
 obtain⟨pv,hpv⟩:∃ x,x=v:=⟨_,rfl⟩
 rcases hway with rfl | ⟨rfl,rfl⟩ | ⟨rfl,rfl,rfl⟩
 ·go_enter_defers Tryz.func20,Tryz.ntmps20
  go_upto_region 4 with (first
   | (go_at_call 35;(with_reducible refine (HD.out _).mono ?_);rintro e w0 ⟨rfl,rfl⟩)
   | (go_at_call 50;(with_reducible refine (HV.out _ ?_).mono ?_);(· exact (by repeat (first | with_reducible exact Gr.refl _ | with_reducible assumption | refine Gr.setCell ?_ (by first | omega | (simp;done) | (simp;omega)) _ | refine Gr.alloc ?_ _ | refine Gr.drew ?_ | refine Gr.drewN ?_ _ | refine Gr.trans ?_ (by with_reducible assumption))));rintro e w1 ⟨rfl,hg1⟩)
   | (go_at_call 36;(with_reducible refine (HT.out _).mono ?_);rintro e w2 ⟨rfl,hg2⟩))
  obtain⟨hgw,k0,k1⟩:=fin.out _ (hg1)
  have f0:=k0.lt
  obtain⟨c1,f1⟩:=k0.cel.2 0 _ rfl
  obtain⟨c2,f2⟩:=k0.cel.2 1 _ rfl
  obtain⟨c3,f3⟩:=k0.cel.2 2 _ rfl
  obtain⟨c4,f4⟩:=k0.cel.2 3 _ rfl
  obtain⟨c5,f5⟩:=k1.cel.one
  have f6:=k1.lt
  go_wp2
  refine leaves_cons (f:=49) (args:=#[.pointer (some ⟨w.heap.size,0,none⟩),.pointer (some ⟨w.heap.size+1,0,none⟩)]) (by simp) (by simp [go_sem]) ?_
  refine (ofD_idle _ _ _).mono ?_
  rintro e u' w'' ⟨rfl,rfl,rfl⟩
  simp [Leaves,settle,results,Tryz.results20,go_sem,c1,c2,c3,c4,c5]
  repeat (first | (with_reducible exact hgw) | (with_reducible refine Gr.setCell ?_ (by simp) _))
 ·go_enter_defers Tryz.func20,Tryz.ntmps20
  go_upto_region 4 with (first
   | (go_at_call 35;(with_reducible refine (HD.out _).mono ?_);rintro e w0 ⟨rfl,rfl⟩)
   | (go_at_call 50;(with_reducible refine (HV.out _ ?_).mono ?_);(· exact (by repeat (first | with_reducible exact Gr.refl _ | with_reducible assumption | refine Gr.setCell ?_ (by first | omega | (simp;done) | (simp;omega)) _ | refine Gr.alloc ?_ _ | refine Gr.drew ?_ | refine Gr.drewN ?_ _ | refine Gr.trans ?_ (by with_reducible assumption))));rintro e w1 ⟨rfl,hg1⟩)
   | (go_at_call 36;(with_reducible refine (HT.out _).mono ?_);rintro e w2 ⟨rfl,hg2⟩))
  obtain⟨hgw,k0,k1⟩:=fin.out _ (hg1)
  have f0:=k0.lt
  obtain⟨c1,f1⟩:=k0.cel.2 0 _ rfl
  obtain⟨c2,f2⟩:=k0.cel.2 1 _ rfl
  obtain⟨c3,f3⟩:=k0.cel.2 2 _ rfl
  obtain⟨c4,f4⟩:=k0.cel.2 3 _ rfl
  obtain⟨c5,f5⟩:=k1.cel.one
  have f6:=k1.lt
  go_wp2
  refine leaves_cons (f:=49) (args:=#[.pointer (some ⟨w.heap.size,0,none⟩),.pointer (some ⟨w.heap.size+1,0,none⟩)]) (by simp) (by simp [go_sem]) ?_
  refine (ofD_idle _ _ _).mono ?_
  rintro e u' w'' ⟨rfl,rfl,rfl⟩
  simp [Leaves,settle,results,Tryz.results20,go_sem,c1,c2,c3,c4,c5]
  repeat (first | (with_reducible exact hgw) | (with_reducible refine Gr.setCell ?_ (by simp) _))
 ·go_enter_defers Tryz.func20,Tryz.ntmps20
  go_upto_region 4 with (first
   | (go_at_call 35;(with_reducible refine (HD.out _).mono ?_);rintro e w0 ⟨rfl,rfl⟩)
   | (go_at_call 50;(with_reducible refine (HV.out _ ?_).mono ?_);(· exact (by repeat (first | with_reducible exact Gr.refl _ | with_reducible assumption | refine Gr.setCell ?_ (by first | omega | (simp;done) | (simp;omega)) _ | refine Gr.alloc ?_ _ | refine Gr.drew ?_ | refine Gr.drewN ?_ _ | refine Gr.trans ?_ (by with_reducible assumption))));rintro e w1 ⟨rfl,hg1⟩)
   | (go_at_call 36;(with_reducible refine (HT.out _).mono ?_);rintro e w2 ⟨rfl,hg2⟩))
  obtain⟨hgw,k0,k1⟩:=fin.out _ (hg1.trans hg2)
  have f0:=k0.lt
  obtain⟨c1,f1⟩:=k0.cel.2 0 _ rfl
  obtain⟨c2,f2⟩:=k0.cel.2 1 _ rfl
  obtain⟨c3,f3⟩:=k0.cel.2 2 _ rfl
  obtain⟨c4,f4⟩:=k0.cel.2 3 _ rfl
  obtain⟨c5,f5⟩:=k1.cel.one
  have f6:=k1.lt
  go_wp2
  refine leaves_cons (f:=49) (args:=#[.pointer (some ⟨w.heap.size,0,none⟩),.pointer (some ⟨w.heap.size+1,0,none⟩)]) (by simp) (by simp [go_sem]) ?_
  refine (ofD_idle _ _ _).mono ?_
  rintro e u' w'' ⟨rfl,rfl,rfl⟩
  simp [Leaves,settle,results,Tryz.results20,go_sem,c1,c2,c3,c4,c5]
  repeat (first | (with_reducible exact hgw) | (with_reducible refine Gr.setCell ?_ (by simp) _))
end Go.Proofs.YtgbiodnfpbhjiaaGreatDoor
