/-
  Small words for walks: a world that has at most new blocks; results. No program in sight.
  Conditions: none.
-/
import Derived.Below
import Derived.Lib.Hide
import Derived.Deep.Draws
import Derived.WalkKit
import Derived.Deep.QuietTactic
import Derived.BigQuiet
import Derived.Deep.RegionHeld3
import Derived.StillTail
import Derived.OneCell
namespace Go.Proofs.YtnginfangeikpaaGreatDoor
theorem zI{α:Type}(l:List α)(i:Nat)(a:α):l.toArray.setIfInBounds i a=(l.set i a).toArray:=List.setIfInBounds_toArray ..
theorem zS{α:Type}{x:α}{xs:List α}{n:Nat}{a:α}:(x::xs).set (n+1) a=x::xs.set n a:=rfl
theorem zZ{α:Type}{x:α}{xs:List α}{a:α}:(x::xs).set 0 a=a::xs:=rfl
theorem zG{α:Type}{xs:List α}{i:Nat}(h:i<xs.toArray.size):xs.toArray[i]=xs[i]'(by simpa using h):=rfl
theorem zH{α:Type}{x:α}{xs:List α}{i:Nat}(h:i+1<(x::xs).length):(x::xs)[i+1]=xs[i]'(by simpa using h):=rfl
theorem zK{α:Type}{x:α}{xs:List α}(h:0<(x::xs).length):(x::xs)[0]=x:=rfl
open Go.RowKit
def Gr (a w:World):Prop:=Below a.heap.size a w
theorem Gr.refl (a:World):Gr a a:=Below.refl _ _
theorem Gr.size {a w:World} (h:Gr a w):a.heap.size≤w.heap.size:=Below.size h
theorem Gr.alloc {a w:World} (h:Gr a w) (o:Obj):Gr a (w.alloc o):=Below.alloc h h.size o
theorem Gr.drew {a w:World} (h:Gr a w):Gr a w.drew:=Below.drew h
theorem Gr.drewN {a w:World} (h:Gr a w) (n:Nat):Gr a (w.drewN n):=⟨h.os,h.tape,h.output,h.size,h.block⟩
theorem Gr.setCell {a w:World} (h:Gr a w) {p:Addr} (hp:a.heap.size≤p.block) (u:Value):Gr a (w.setCell p u):=Below.setCell h hp u
theorem Gr.trans {a b c:World} (h:Gr a b) (k:Gr b c):Gr a c:=Below.trans h (Below.mono k h.size)
theorem Gr.of_drewN {w w':World} (h:∃ n,w'=w.drewN n):Gr w w':=by obtain⟨n,rfl⟩:=h;exact (Gr.refl _).drewN n
theorem Gr.cells {W w1:World} (hb:Gr W w1):(∀ b o,b<W.heap.size→w1.cell? ⟨b,o,none⟩=W.cell? ⟨b,o,none⟩)∧(∀ b o,b<W.heap.size→w1.frozen? ⟨b,o,none⟩=W.frozen? ⟨b,o,none⟩):=
 ⟨fun b o h=>Below.cell hb (p:=⟨b,o,none⟩) h,fun b o h=>Below.frozen hb (p:=⟨b,o,none⟩) h⟩
theorem ret_int {k:IntKind} {a b:Int} (h:a=b):Ending.returned (.int k a)=.returned (.int k b):=by rw [h]
theorem ret_bool {a b:Bool} (h:a=b):Ending.returned (.bool a)=.returned (.bool b):=by rw [h]
theorem quiet_left {P:Program} {f:FuncId} {args:Array Value} {w:World} {n:Nat} {v:Value}
  (h:Calls P f args (w.drewN n) fun e w'=>e=.returned v∧w.drewN n=w'):Calls P f args (w.drewN n) fun e w''=>e=.returned v∧∃ m,w''=w.drewN m:=
 h.mono fun _ _ ⟨he,hm⟩=>⟨he,n,hm.symm⟩
structure GW (W:World) where
 w:World
 h:Gr W w
instance GW.nonempty (W:World):Nonempty (GW W):=⟨⟨W,Gr.refl W⟩⟩
theorem gr_call {P:Program} {f:FuncId} {args:Array Value} {W:World} {x:GW W} {v:Value} (h:Calls P f args x.w fun e w'=>e=.returned v∧Gr x.w w') :
  Calls P f args x.w fun e w''=>e=.returned v∧∃ y:GW W,w''=y.w:=
 h.mono fun _ w' ⟨he,hg⟩=>⟨he,⟨w',x.h.trans hg⟩,rfl⟩
theorem gr_call_same {P:Program} {f:FuncId} {args:Array Value} {W:World} {x:GW W} {v:Value} (h:Calls P f args x.w fun e w'=>e=.returned v∧x.w=w') :
  Calls P f args x.w fun e w''=>e=.returned v∧∃ y:GW W,w''=y.w:=
 h.mono fun _ _ ⟨he,hg⟩=>⟨he,x,hg.symm⟩
section
variable {P:Program} {ops:Array Oper} {md:Region.Mode} {C:World→Prop}
def headAny (P:Program) (md:Region.Mode) (ops:Array Oper) (C:World→Prop) (n:Nat) (L:Array Bool→Act→Prop):Nat→Array Bool→Act→Prop
 | 0,listed,a=>L listed a
 | f+1,listed,a=>Region.ready md ops listed≠[]∧∀ i∈Region.ready md ops listed,i<n∧qOp P ops C i (headAny P md ops C n L f (listed.setIfInBounds i true)) a
theorem headAny_wp {n g:Nat} {L:Array Bool→Act→Prop} {Q':Exit→Act→World→Prop} (hL:∀ listed a w,C w→L listed a→wpAny P md ops Q' g listed a w) :
  ∀ (f:Nat) (listed:Array Bool) (a:Act) (w:World),C w→headAny P md ops C n L f listed a→wpAny P md ops Q' (f+g) listed a w
 | 0,listed,a,w,hw,h=>by rw [Nat.zero_add];exact hL _ _ _ hw h
 | f+1,listed,a,w,hw,h=>by
  rw [show f+1+g=(f+g)+1 by omega]
  exact⟨fun h0=>absurd h0 h.1,fun i hi=>wpOp_of_qOp hw (fun a' w' hw' h'=>headAny_wp hL f _ a' w' hw' h') (h.2 i hi).2⟩
theorem headAny_first {n i:Nat} {oi:Oper} {v:Value} {L:Array Bool→Act→Prop} (hi:ops[i]?=some oi) (hsel:∀ (j:Nat) (o:Oper) cs b,ops[j]?=some o→o.op≠.select cs b)
  (hs:Region.sinkB md ops n=true) (hc:Region.chainB md ops n=true) (hn:n<ops.size) (hin:i<n)
  (hdone:∀ listed a,L listed a→∀ j∈Region.ready md ops listed,n≤j) :
  ∀ (f:Nat) (listed:Array Bool) (a:Act),HeadInv md ops n listed →
   (∀ j oj,ops[j]?=some oj→j≠i→listed.getD j true=false→(∀ e∈oj.after,Region.binds md e=true→e.on≠i)→oi.apart ops oj=true) →
   i∈Region.ready md ops listed→YieldsIn P ops C oi v a →
   headAny P md ops C n L f (listed.setIfInBounds i true) (a.put oi.dst v)→headAny P md ops C n L (f+1) listed a:=by
 intro f
 induction f with
 | zero=>
  intro listed a inv _ hr hy H
  have hun:=(mem_ready.1 hr).1
  refine⟨fun h=>(by rw [h] at hr;cases hr),fun j hj=>?_⟩
  have hjn:j<n:=by
   rcases Nat.lt_or_ge j n with h | h
   ·exact h
   ·exact absurd hj (tail_waits hs hc hn inv _ i rfl hin hun j h)
  refine⟨hjn,?_⟩
  by_cases hji:j=i
  ·subst hji;exact hy.qOp hi H
  ·have:=hdone _ _ H j (ready_mono hj hji)
   omega
 | succ f ih=>
  intro listed a inv hfree hr hy H
  have hun:=(mem_ready.1 hr).1
  refine⟨fun h=>(by rw [h] at hr;cases hr),fun j hj=>?_⟩
  have hjn:j<n:=by
   rcases Nat.lt_or_ge j n with h | h
   ·exact h
   ·exact absurd hj (tail_waits hs hc hn inv _ i rfl hin hun j h)
  refine⟨hjn,?_⟩
  by_cases hji:j=i
  ·subst hji;exact hy.qOp hi H
  ·have h1:=(H.2 j (ready_mono hj hji)).2
   obtain⟨hjun,oj,hoj,hall⟩:=mem_ready.1 hj
   have hnot:∀ e∈oj.after,Region.binds md e=true→e.on≠i:=fun e he hb heq=>by
    have h1:=hall e he hb
    rw [heq,getD_both hun] at h1
    cases h1
   have h2:=qOp_put hoj (hfree j oj hoj hji hjun hnot) (fun cs b=>hsel i oi cs b hi) (fun cs b=>hsel j oj cs b hoj) hy h1
   have hfree':∀ k ok,ops[k]?=some ok→k≠i→(listed.setIfInBounds j true).getD k true=false →
     (∀ e∈ok.after,Region.binds md e=true→e.on≠i)→oi.apart ops ok=true:=fun k ok hk hki hun' hno=>by
    refine hfree k ok hk hki ?_ hno
    by_cases hjk:j=k
    ·subst hjk;exact hjun
    ·rw [getD_set_ne true hjk] at hun';exact hun'
   refine qOp_mono (fun a' h3=>ih (listed.setIfInBounds j true) a' (inv.set hj hjn) hfree' (ready_mono hr (Ne.symm hji)) h3.1 ?_) h2
   rw [Array.setIfInBounds_comm _ _ hji]
   exact h3.2
theorem headAny_lex {n g:Nat} {Lq:Act→Prop} (hsel:Region.noSelect ops=true) (hs:Region.sinkB md ops n=true) (hc:Region.chainB md ops n=true) (hn:n<ops.size) :
  ∀ (l:List Oper) (k:Nat) (listed:Array Bool) (a:Act),(∀ j,j<l.length→l[j]?=ops[k+j]?)→k+l.length=n→HeadInv md ops n listed →
  Region.lexHead md ops g l.length k listed=true→wpQuiet P ops C Lq l a →
  headAny P md ops C n (fun listed' a'=>Region.seqB md ops g n listed'=true∧Lq a') l.length listed a
 | [],k,listed,a,_,hk,_,hB,h=>by
  have:k=n:=by simpa using hk
  subst this
  exact⟨by simpa [Region.lexHead] using hB,h⟩
 | o :: l,k,listed,a,hl,hk,inv,hB,h=>by
  have h0:ops[k]?=some o:=by simpa using (hl 0 (by simp)).symm
  simp only [List.length_cons,Region.lexHead,Bool.and_eq_true] at hB
  obtain⟨⟨hr,hf⟩,hB'⟩:=hB
  have hkn:k<n:=by simp only [List.length_cons] at hk;omega
  have hr':k∈Region.ready md ops listed:=by simpa using hr
  have hst:qOp P ops C k (wpQuiet P ops C Lq l) a:=by unfold qOp;simp only [h0];exact h
  obtain⟨v,hy,hK⟩:=yieldsIn_of_qOp h0 hst
  exact headAny_first h0 (Region.noSelect_spec hsel) hs hc hn hkn (fun listed' a' hL=>seqB_ready hL.1) l.length listed a inv (Region.free_spec h0 hf) hr' hy
   (headAny_lex hsel hs hc hn l (k+1) _ _ (fun j hj=>by have:=hl (j+1) (by simp;omega);simpa [Nat.add_assoc,Nat.add_comm 1 j] using this) (by simp only [List.length_cons] at hk;omega) (inv.set hr' hkn) hB' hK)
theorem wp_region_head {id:Nat} {Q:Exit→Act→World→Prop} {a:Act} {w:World} {l:List Oper} (n:Nat) (hm:P.follows .mixedOrders=true) (hB:Region.lexTailB .any l.toArray n=true) (hC:C { w with drawn:=w.drawn+1 })
  (h:wpQuiet P l.toArray C (fun a'=>∀ w',C w'→wpList P l.toArray Q (l.drop n) a' w') (l.take n) a):(Code.region id l.toArray true).wp P Q a w:=by
 simp only [Region.lexTailB,Bool.and_eq_true,decide_eq_true_eq] at hB
 obtain⟨⟨⟨⟨hsel,hn⟩,hs⟩,hc⟩,hlex⟩:=hB
 have hn':n<l.length:=by simpa using hn
 have htl:(l.take n).length=n:=by simp;omega
 have hdl:(l.drop n).length=l.toArray.size - n:=by simp
 have inv0:HeadInv .any l.toArray n (Array.replicate l.toArray.size false):=
  ⟨by simp,fun j oj _ hl=>(by rw [getD_replicate_false] at hl;cases hl),fun t _ ht=>getD_in (by simpa using ht) (getD_replicate_false _ _)⟩
 have H:=headAny_lex (md:=.any) (g:=l.toArray.size - n) hsel hs hc hn (l.take n) 0 _ a (fun j hj=>by
  have hj':j<n:=by rw [htl] at hj;exact hj
  simp [hj']) (by simpa using htl) inv0 (by rw [htl];exact hlex) h
 refine wp_region_any hm ?_
 have:=headAny_wp (Q':=Q) (g:=l.toArray.size - n) (fun listed a' w' hw' hL=>by
  have:=wpAny_of_seq (md:=.any) (Q':=Q) (l.drop n) n listed a' w' (fun j=>by simp [List.getElem?_drop]) (by rw [hdl];exact hL.1) (hL.2 w' hw')
  rwa [hdl] at this) _ _ _ _ hC H
 rw [htl,show n+(l.toArray.size - n)=l.toArray.size by omega] at this
 exact this
theorem wp_region_gr {id:Nat} {Q:Exit→Act→World→Prop} {a:Act} {W:World} {l:List Oper} (hm:P.follows .mixedOrders=true) (hB:Region.lexB .any l.toArray=true)
  (h:(∀ (x:GW W) (b o:Nat),b<W.heap.size→x.w.cell? ⟨b,o,none⟩=W.cell? ⟨b,o,none⟩)→(∀ (x:GW W) (b o:Nat),b<W.heap.size→x.w.frozen? ⟨b,o,none⟩=W.frozen? ⟨b,o,none⟩) →
   wpQuiet P l.toArray (fun w'=>∃ x:GW W,w'=x.w) (fun a'=>∀ w',(∃ x:GW W,w'=x.w)→Q .normal a' w') l a):(Code.region id l.toArray true).wp P Q a W:=
 wp_region_quiet (C:=fun w'=>∃ x:GW W,w'=x.w) hm hB ⟨⟨W.drew,(Gr.refl W).drew⟩,rfl⟩ (by simpa using h (fun x b o hb=>x.h.cells.1 b o hb) (fun x b o hb=>x.h.cells.2 b o hb))
theorem wp_region_gr_tail {id:Nat} {Q:Exit→Act→World→Prop} {a:Act} {W:World} {l:List Oper} (n:Nat) (hm:P.follows .mixedOrders=true) (hB:Region.lexTailB .any l.toArray n=true)
  (h:(∀ (x:GW W) (b o:Nat),b<W.heap.size→x.w.cell? ⟨b,o,none⟩=W.cell? ⟨b,o,none⟩)→(∀ (x:GW W) (b o:Nat),b<W.heap.size→x.w.frozen? ⟨b,o,none⟩=W.frozen? ⟨b,o,none⟩) →
   wpQuiet P l.toArray (fun w'=>∃ x:GW W,w'=x.w) (fun a'=>∀ w',(∃ x:GW W,w'=x.w)→wpList P l.toArray Q (l.drop n) a' w') (l.take n) a):(Code.region id l.toArray true).wp P Q a W:=
 wp_region_head n hm hB ⟨⟨W.drew,(Gr.refl W).drew⟩,rfl⟩ (h (fun x b o hb=>x.h.cells.1 b o hb) (fun x b o hb=>x.h.cells.2 b o hb))
end
set_option linter.unusedVariables false
theorem calls_gen {P:Program} {f:FuncId} {args:Array Value} {p:Ending→World→Prop} {W:World} (R:World→Prop) (hR:R W) (h:∀ W',R W'→Calls P f args W' p):Calls P f args W p:=h W hR
section
variable {P:Program}
def deadFrame:Frame:={ fn:=0,tmps:=#[],todo:=[.code (.cond (.const (.int .i64 0)) .skip .skip)],defers:=[],mode:=.run,kind:=.normal }
theorem dead_step (v:Value) (w:World):∃ o w',step P (lone (deadFrame.finish v) [] w)=.ended o w':=by
 refine⟨_,_,step_lone_ended (w':=w) (o:=.stuck "cond: bool expected" (deadFrame.pos P)) ?_⟩
 rfl
theorem calls_unique {f:FuncId} {args:Array Value} {w:World} {v v':Value} (h:Calls P f args w fun e _=>e=.returned v) (h':Calls P f args w fun e _=>e=.returned v'):v=v':=by
 obtain⟨e1,w1,fr1,rfl,hc1,hf1,hl1⟩:=h [deadFrame]
 obtain⟨e2,w2,fr2,rfl,hc2,hf2,hl2⟩:=h' [deadFrame]
 obtain⟨n1,hn1⟩:=hc1
 obtain⟨n2,hn2⟩:=hc2
 have key:∀ (n1 n2:Nat) (w1 w2:World) (fr1 fr2:Frame) (v v':Value),n1≤n2→runN P n1 (lone (Frame.enter P f args .normal) [deadFrame] w)=.next (lone fr1 [deadFrame] w1)→runN P n2 (lone (Frame.enter P f args .normal) [deadFrame] w)=.next (lone fr2 [deadFrame] w2) →
   fr1.leaving P w1 (.returned v)→fr2.leaving P w2 (.returned v')→v=v':=by
  intro n1 n2 w1 w2 fr1 fr2 v v' hle hn1 hn2 hl1 hl2
  obtain⟨d,rfl⟩:=Nat.exists_eq_add_of_le hle
  rw [runN_add,hn1] at hn2
  simp only at hn2
  have hs:=step_leave_returned (c:=deadFrame) (cs:=[]) hl1
  match d,hn2 with
  | 0,hn2=>
   simp only [runN] at hn2
   have hm:lone fr1 [deadFrame] w1=lone fr2 [deadFrame] w2:=by injection hn2
   have h1:w1=w2:=congrArg Machine.world hm
   have h2:fr1=fr2:=by
    have h3:=congrArg (fun m=>(m.gs[0]?).map (·.frame)) hm
    simpa [lone] using h3
   subst h1 h2
   obtain⟨_,_,_,fn,hfn,hr⟩:=hl1
   obtain⟨_,_,_,fn',hfn',hr'⟩:=hl2
   rw [hfn] at hfn'
   injection hfn' with hfn'
   subst hfn'
   rw [hr] at hr'
   injection hr'
  | 1,hn2=>
   simp only [runN,hs] at hn2
   have hm:lone (deadFrame.finish v) [] w1=lone fr2 [deadFrame] w2:=by injection hn2
   have h3:=congrArg (fun m=>(m.gs[0]?).map (·.callers)) hm
   simp [lone] at h3
  | d+2,hn2=>
   obtain⟨o,w',hd⟩:=dead_step (P:=P) v w1
   simp only [runN,hs,hd] at hn2
   cases hn2
 rcases Nat.le_total n1 n2 with hle | hle
 ·exact key n1 n2 w1 w2 fr1 fr2 v v' hle hn1 hn2 hl1 hl2
 ·exact (key n2 n1 w2 w1 fr2 fr1 v' v hle hn2 hn1 hl2 hl1).symm
variable {ops:Array Oper} {md:Region.Mode}
theorem quietAt_unique {C C':World→Prop} {o:Oper} {a:Act} {w:World} {v v':Value} (h:o.quietAt P a C w v) (h':o.quietAt P a C' w v'):v=v':=by
 unfold Oper.quietAt at h h'
 generalize (execOp a.eval o).run P w=r at *
 cases r with
 | halt x w'=>simp only [Oper.quietUpon] at h
 | ok n w'=>
  cases n <;> simp only [Oper.quietUpon] at h h'
  case value u=>rw [← h.2,← h'.2]
  case skip=>rw [h.2,h'.2]
  case enter f args=>exact calls_unique (h.2.mono fun _ _ x=>x.1) (h'.2.mono fun _ _ x=>x.1)
theorem quietAt_mono {C C':World→Prop} {o:Oper} {a:Act} {w:World} {v:Value} (hC:∀ w',C w'→C' w') (h:o.quietAt P a C w v):o.quietAt P a C' w v:=by
 unfold Oper.quietAt at *
 generalize (execOp a.eval o).run P w=r at *
 cases r with
 | halt x w'=>simp only [Oper.quietUpon] at h
 | ok n w'=>
  cases n <;> simp only [Oper.quietUpon] at h ⊢
  case value u=>exact h
  case skip=>exact h
  case enter f args=>exact⟨h.1,h.2.mono fun _ _ x=>⟨x.1,hC _ x.2⟩⟩
def YR (P:Program) (ops:Array Oper) (W:World) (o:Oper) (v:Value) (a:Act):Prop:=
 (Region.wanted o (yielded ops a.tmps)=true∧∀ x,Gr W x→o.quietAt P a (fun w'=>Gr x w') x v)∨(Region.wanted o (yielded ops a.tmps)=false∧v=undef)
theorem YR.yields {W B:World} (hB:Gr W B) {o:Oper} {v:Value} {a:Act} (h:YR P ops W o v a):YieldsIn P ops (fun w'=>Gr B w') o v a:=by
 rcases h with ⟨h1,h2⟩ | ⟨h1,h2⟩
 ·exact .inl ⟨h1,fun w hw=>quietAt_mono (fun w' hw'=>hw.trans hw') (h2 w (hB.trans hw))⟩
 ·exact .inr ⟨h1,h2⟩
theorem YR.keep {W:World} {oi oj:Oper} {v u:Value} {a:Act} (hsi:∀ cs b,oi.op≠.select cs b) (h3:∀ d,oj.dst=some d→d∉oi.looksAt ops) (h:YR P ops W oi v a):YR P ops W oi v (a.put oj.dst u):=by
 unfold YR Oper.quietAt at *
 rw [execOp_put oi hsi a oj.dst u h3,wanted_put oi a oj.dst u h3]
 exact h
def wpQuietR (P:Program) (ops:Array Oper) (W:World) (Q:Act→Prop):List Oper→Act→Prop
 | [],a=>Q a
 | o :: rest,a=>∃ v,YR P ops W o v a∧wpQuietR P ops W Q rest (a.put o.dst v)
theorem rel_of {W:World} {Fin:World→Act→Prop}:∀ (l:List Oper) (a:Act),(∀ B,Gr W B→wpQuiet P ops (fun w'=>∃ x:GW B,w'=x.w) (Fin B) l a)→wpQuietR P ops W (fun a'=>∀ B,Gr W B→Fin B a') l a
 | [],a,h=>h
 | o :: l,a,h=>by
  by_cases hw:Region.wanted o (yielded ops a.tmps)=true
  ·have h0:=h W (Gr.refl W)
   simp only [wpQuiet,hw,if_true] at h0
   obtain⟨v,hv,-⟩:=h0
   have h1:∀ B,Gr W B→(∀ w,(∃ x:GW B,w=x.w)→o.quietAt P a (fun w'=>∃ x:GW B,w'=x.w) w v)∧wpQuiet P ops (fun w'=>∃ x:GW B,w'=x.w) (Fin B) l (a.put o.dst v):=fun B hB=>by
    have hb:=h B hB
    simp only [wpQuiet,hw,if_true] at hb
    obtain⟨u,hu,hn⟩:=hb
    have e:u=v:=quietAt_unique (hu B ⟨⟨B,Gr.refl B⟩,rfl⟩) (hv B ⟨⟨B,hB⟩,rfl⟩)
    subst e
    exact⟨hu,hn⟩
   exact⟨v,.inl ⟨hw,fun x hx=>quietAt_mono (fun w' ⟨y,hy⟩=>by rw [hy];exact y.h) ((h1 x hx).1 x ⟨⟨x,Gr.refl x⟩,rfl⟩)⟩,rel_of l _ fun B hB=>(h1 B hB).2⟩
  ·refine⟨undef,.inr ⟨by simpa using hw,rfl⟩,rel_of l _ fun B hB=>?_⟩
   have hb:=h B hB
   simpa only [wpQuiet,hw,Bool.false_eq_true,if_false] using hb
theorem qOp_put2 {C:World→Prop} {j:Nat} {oi oj:Oper} {v:Value} (hj:ops[j]?=some oj) (hap:oi.apart ops oj=true) (hsj:∀ cs b,oj.op≠.select cs b) {K:Act→Prop} {a:Act}
  (h:qOp P ops C j K (a.put oi.dst v)):qOp P ops C j (fun a'=>(∃ u,a'=a.put oj.dst u)∧K (a'.put oi.dst v)) a:=by
 obtain⟨h1,h2,h3⟩:=Oper.apart_spec hap
 unfold qOp at *
 simp only [hj] at *
 rw [wanted_put oj a oi.dst v h1] at h
 split
 ·rename_i hw
  simp only [hw,if_true] at h
  obtain⟨u,hu,hn⟩:=h
  refine⟨u,fun w hw'=>?_,⟨u,rfl⟩,by rw [← Act.put_comm a v u h2];exact hn⟩
  have:=hu w hw'
  unfold Oper.quietAt at *
  rwa [execOp_put oj hsj a oi.dst v h1] at this
 ·rename_i hw
  simp only [hw] at h
  exact⟨⟨_,rfl⟩,by rw [← Act.put_comm a v undef h2];exact h⟩
def madeAny (P:Program) (md:Region.Mode) (ops:Array Oper) (W:World) (o:Obj) (n:Nat) (d:Option Tmp) (L:World→Array Bool→Act→Prop):Nat→Array Bool→Act→Prop
 | 0,listed,a=>Region.ready md ops listed≠[]∧∀ i∈Region.ready md ops listed,i=n∧∀ w0,Gr W w0→L w0 (listed.setIfInBounds n true) (a.put d (.pointer (some ⟨w0.heap.size,0,none⟩)))
 | f+1,listed,a=>Region.ready md ops listed≠[]∧∀ i∈Region.ready md ops listed,
   (i<n∧qOp P ops (fun w'=>Gr W w') i (madeAny P md ops W o n d L f (listed.setIfInBounds i true)) a) ∨
   (i=n∧∀ w0,Gr W w0→headAny P md ops (fun w'=>Gr (w0.alloc o) w') (n+1) (L w0) (f+1) (listed.setIfInBounds n true) (a.put d (.pointer (some ⟨w0.heap.size,0,none⟩))))
theorem madeAny_wp {W:World} {o:Obj} {n g:Nat} {d:Option Tmp} {oa:Oper} {L:World→Array Bool→Act→Prop} {Q':Exit→Act→World→Prop} (hn:ops[n]?=some oa) (hd:oa.dst=d) (hw:∀ a:Act,Region.wanted oa (yielded ops a.tmps)=true)
  (hz:∀ (a:Act) (w:World),(execOp a.eval oa).run P w=.ok (.value (.pointer (some ⟨w.heap.size,0,none⟩))) (w.alloc o))
  (hL:∀ w0,Gr W w0→∀ listed a w,Gr (w0.alloc o) w→L w0 listed a→wpAny P md ops Q' g listed a w) :
  ∀ (f:Nat) (listed:Array Bool) (a:Act) (w:World),Gr W w→madeAny P md ops W o n d L f listed a→wpAny P md ops Q' (f+1+g) listed a w
 | 0,listed,a,w,hW,h=>by
  rw [show 0+1+g=g+1 by omega]
  refine⟨fun h0=>absurd h0 h.1,fun i hi=>?_⟩
  obtain⟨rfl,h2⟩:=h.2 i hi
  unfold wpOp
  simp only [hn,hw,if_true]
  refine .inl ?_
  unfold Oper.wp
  rw [hz]
  simp only [Oper.upon]
  rw [hd]
  exact hL w hW _ _ _ (Gr.refl _) (h2 w hW)
 | f+1,listed,a,w,hW,h=>by
  rw [show f+1+1+g=(f+1+g)+1 by omega]
  refine⟨fun h0=>absurd h0 h.1,fun i hi=>?_⟩
  rcases h.2 i hi with ⟨h1,h2⟩ | ⟨rfl,h2⟩
  ·exact wpOp_of_qOp hW (fun a' w' hw' h'=>madeAny_wp hn hd hw hz hL f _ a' w' hw' h') h2
  ·unfold wpOp
   simp only [hn,hw,if_true]
   refine .inl ?_
   unfold Oper.wp
   rw [hz]
   simp only [Oper.upon]
   rw [hd]
   exact headAny_wp (fun listed a w' hw' h'=>hL w hW listed a w' hw' h') (f+1) _ _ _ (Gr.refl _) (h2 w hW)
theorem madeAny_first {W:World} {o:Obj} {n i:Nat} {d:Option Tmp} {oa oi:Oper} {v:Value} {L:World→Array Bool→Act→Prop} (hna:ops[n]?=some oa) (hd:oa.dst=d) (hi:ops[i]?=some oi) (hsel:∀ (j:Nat) (o:Oper) cs b,ops[j]?=some o→o.op≠.select cs b)
  (hs:Region.sinkB md ops (n+1)=true) (hc:Region.chainB md ops (n+1)=true) (hn:n+1<ops.size) (hin:i<n) (hae:∀ e∈oa.after,Region.binds md e=true→e.on≠i)
  (hdone:∀ w0 listed a,L w0 listed a→∀ j∈Region.ready md ops listed,n+1≤j) :
  ∀ (f:Nat) (listed:Array Bool) (a:Act),HeadInv md ops (n+1) listed→listed.getD n true=false →
   (∀ j oj,ops[j]?=some oj→j≠i→listed.getD j true=false→(∀ e∈oj.after,Region.binds md e=true→e.on≠i)→oi.apart ops oj=true) →
   i∈Region.ready md ops listed→YR P ops W oi v a →
   madeAny P md ops W o n d L f (listed.setIfInBounds i true) (a.put oi.dst v)→madeAny P md ops W o n d L (f+1) listed a:=by
 have alloc:∀ (f:Nat) (listed:Array Bool) (a:Act) (w0:World),Gr W w0→HeadInv md ops (n+1) listed→listed.getD n true=false→n∈Region.ready md ops listed →
   (∀ j oj,ops[j]?=some oj→j≠i→listed.getD j true=false→(∀ e∈oj.after,Region.binds md e=true→e.on≠i)→oi.apart ops oj=true) →
   i∈Region.ready md ops listed→YR P ops W oi v a →
   headAny P md ops (fun w'=>Gr (w0.alloc o) w') (n+1) (L w0) f ((listed.setIfInBounds i true).setIfInBounds n true) ((a.put oi.dst v).put d (.pointer (some ⟨w0.heap.size,0,none⟩))) →
   headAny P md ops (fun w'=>Gr (w0.alloc o) w') (n+1) (L w0) (f+1) (listed.setIfInBounds n true) (a.put d (.pointer (some ⟨w0.heap.size,0,none⟩))):=by
  intro f listed a w0 hw0 inv hun hrn hfree hr hy H
  have hap:=hfree n oa hna (by omega) hun hae
  obtain⟨h1,h2,h3⟩:=Oper.apart_spec hap
  refine headAny_first (v:=v) hi hsel hs hc hn (by omega) (hdone w0) f (listed.setIfInBounds n true) _ (inv.set hrn (by omega)) (fun j oj hoj hji hjun hno=>?_) (ready_mono hr (by omega)) ?_ ?_
  ·refine hfree j oj hoj hji ?_ hno
   by_cases hjn:n=j
   ·subst hjn;exact hun
   ·rw [getD_set_ne true hjn] at hjun;exact hjun
  ·have hk:=(hy.keep (u:=.pointer (some ⟨w0.heap.size,0,none⟩)) (fun cs b=>hsel i oi cs b hi) h3)
   rw [hd] at hk
   exact hk.yields (hw0.alloc o)
  ·rw [Array.setIfInBounds_comm _ _ (show i≠n by omega)] at H
   rw [← hd] at H ⊢
   rw [Act.put_comm a v _ h2] at H
   exact H
 intro f
 induction f with
 | zero=>
  intro listed a inv hnun hfree hr hy H
  have hun:=(mem_ready.1 hr).1
  refine⟨fun h=>(by rw [h] at hr;cases hr),fun j hj=>?_⟩
  have hjn:j<n+1:=by
   rcases Nat.lt_or_ge j (n+1) with h | h
   ·exact h
   ·exact absurd hj (tail_waits hs hc hn inv _ i rfl (by omega) hun j h)
  by_cases hji:j=i
  ·subst hji;exact .inl ⟨hin,(hy.yields (Gr.refl W)).qOp hi H⟩
  ·have h1:=H.2 j (ready_mono hj hji)
   obtain⟨rfl,h2⟩:=h1
   exact .inr ⟨rfl,fun w0 hw0=>alloc 0 listed a w0 hw0 inv hnun hj hfree hr hy (h2 w0 hw0)⟩
 | succ f ih=>
  intro listed a inv hnun hfree hr hy H
  have hun:=(mem_ready.1 hr).1
  refine⟨fun h=>(by rw [h] at hr;cases hr),fun j hj=>?_⟩
  have hjn:j<n+1:=by
   rcases Nat.lt_or_ge j (n+1) with h | h
   ·exact h
   ·exact absurd hj (tail_waits hs hc hn inv _ i rfl (by omega) hun j h)
  by_cases hji:j=i
  ·subst hji;exact .inl ⟨hin,(hy.yields (Gr.refl W)).qOp hi H⟩
  ·rcases H.2 j (ready_mono hj hji) with ⟨h0,h1⟩ | ⟨rfl,h2⟩
   ·obtain⟨hjun,oj,hoj,hall⟩:=mem_ready.1 hj
    have hnot:∀ e∈oj.after,Region.binds md e=true→e.on≠i:=fun e he hb heq=>by
     have h1:=hall e he hb
     rw [heq,getD_both hun] at h1
     cases h1
    have hap:=hfree j oj hoj hji hjun hnot
    obtain⟨k1,k2,k3⟩:=Oper.apart_spec hap
    have h2:=qOp_put2 hoj hap (fun cs b=>hsel j oj cs b hoj) h1
    have hfree':∀ k ok,ops[k]?=some ok→k≠i→(listed.setIfInBounds j true).getD k true=false →
      (∀ e∈ok.after,Region.binds md e=true→e.on≠i)→oi.apart ops ok=true:=fun k ok hk hki hun' hno=>by
     refine hfree k ok hk hki ?_ hno
     by_cases hjk:j=k
     ·subst hjk;exact hjun
     ·rw [getD_set_ne true hjk] at hun';exact hun'
    refine .inl ⟨h0,qOp_mono (fun a' h3=>?_) h2⟩
    obtain⟨⟨u,rfl⟩,h4⟩:=h3
    refine ih (listed.setIfInBounds j true) _ (inv.set hj hjn) (by rw [getD_set_ne true (by omega)];exact hnun) hfree' (ready_mono hr (Ne.symm hji)) (hy.keep (fun cs b=>hsel i oi cs b hi) k3) ?_
    rw [Array.setIfInBounds_comm _ _ hji]
    exact h4
   ·exact .inr ⟨rfl,fun w0 hw0=>alloc (f+1) listed a w0 hw0 inv hnun hj hfree hr hy (h2 w0 hw0)⟩
def lexMade (md:Region.Mode) (ops:Array Oper) (g:Nat):Nat→Nat→Array Bool→Bool
 | 0,k,listed=>decide (Region.ready md ops listed=[k]) && Region.seqB md ops g (k+1) (listed.setIfInBounds k true)
 | f+1,k,listed=>(Region.ready md ops listed).contains k && Region.free md ops listed k && lexMade md ops g f (k+1) (listed.setIfInBounds k true)
def noAfter (ops:Array Oper) (n:Nat):Bool:=match ops[n]? with | some o=>o.after.isEmpty | none=>false
def lexMadeB (md:Region.Mode) (ops:Array Oper) (n:Nat):Bool:=
 Region.noSelect ops && decide (n+1<ops.size) && Region.sinkB md ops (n+1) && Region.chainB md ops (n+1) && noAfter ops n && lexMade md ops (ops.size - (n+1)) n 0 (Array.replicate ops.size false)
theorem madeAny_lex {W:World} {o:Obj} {n g:Nat} {d:Option Tmp} {oa:Oper} {Lq:World→Act→Prop} (hna:ops[n]?=some oa) (hd:oa.dst=d) (hsel:Region.noSelect ops=true) (hs:Region.sinkB md ops (n+1)=true) (hc:Region.chainB md ops (n+1)=true) (hn:n+1<ops.size) (hae:oa.after=#[]) :
  ∀ (l:List Oper) (k:Nat) (listed:Array Bool) (a:Act),(∀ j,j<l.length→l[j]?=ops[k+j]?)→k+l.length=n→HeadInv md ops (n+1) listed→listed.getD n true=false →
  lexMade md ops g l.length k listed=true→wpQuietR P ops W (fun a'=>∀ w0,Gr W w0→Lq w0 (a'.put d (.pointer (some ⟨w0.heap.size,0,none⟩)))) l a →
  madeAny P md ops W o n d (fun w0 listed' a'=>Region.seqB md ops g (n+1) listed'=true∧Lq w0 a') l.length listed a
 | [],k,listed,a,_,hk,_,_,hB,h=>by
  have:k=n:=by simpa using hk
  subst this
  simp only [List.length_nil,lexMade,Bool.and_eq_true,decide_eq_true_eq] at hB
  refine⟨by rw [hB.1];simp,fun i hi=>?_⟩
  rw [hB.1] at hi
  exact⟨by simpa using hi,fun w0 hw0=>⟨hB.2,h w0 hw0⟩⟩
 | o1 :: l,k,listed,a,hl,hk,inv,hnun,hB,h=>by
  have h0:ops[k]?=some o1:=by simpa using (hl 0 (by simp)).symm
  simp only [List.length_cons,lexMade,Bool.and_eq_true] at hB
  obtain⟨⟨hr,hf⟩,hB'⟩:=hB
  have hkn:k<n:=by simp only [List.length_cons] at hk;omega
  have hr':k∈Region.ready md ops listed:=by simpa using hr
  obtain⟨v,hy,hK⟩:=h
  exact madeAny_first hna hd h0 (Region.noSelect_spec hsel) hs hc hn hkn (by rw [hae];simp) (fun w0 listed' a' hL=>seqB_ready hL.1) l.length listed a inv hnun (Region.free_spec h0 hf) hr' hy
   (madeAny_lex hna hd hsel hs hc hn hae l (k+1) _ _ (fun j hj=>by have:=hl (j+1) (by simp;omega);simpa [Nat.add_assoc,Nat.add_comm 1 j] using this) (by simp only [List.length_cons] at hk;omega) (inv.set hr' (by omega)) (by rw [getD_set_ne true (by omega)];exact hnun) hB' hK)
theorem wp_region_gr_made {id:Nat} {Q:Exit→Act→World→Prop} {a:Act} {W:World} {l:List Oper} (n:Nat) (o:Obj) (oa:Oper) (hm:P.follows .mixedOrders=true) (hB:lexMadeB .any l.toArray n=true) (hna:l.toArray[n]?=some oa) (hg:oa.guard=none)
  (hz:∀ (a:Act) (w:World),(execOp a.eval oa).run P w=.ok (.value (.pointer (some ⟨w.heap.size,0,none⟩))) (w.alloc o))
  (h:∀ B,Gr W B→(∀ (x:GW B) (b o:Nat),b<W.heap.size→x.w.cell? ⟨b,o,none⟩=W.cell? ⟨b,o,none⟩)→(∀ (x:GW B) (b o:Nat),b<W.heap.size→x.w.frozen? ⟨b,o,none⟩=W.frozen? ⟨b,o,none⟩) →
   wpQuiet P l.toArray (fun w'=>∃ x:GW B,w'=x.w) (fun a'=>∀ w0,Gr W w0→B=w0.alloc o→∀ w',Gr (w0.alloc o) w'→wpList P l.toArray Q (l.drop (n+1)) (a'.put oa.dst (.pointer (some ⟨w0.heap.size,0,none⟩))) w') (l.take n) a):(Code.region id l.toArray true).wp P Q a W:=by
 simp only [lexMadeB,Bool.and_eq_true,decide_eq_true_eq] at hB
 obtain⟨⟨⟨⟨⟨hsel,hn⟩,hs⟩,hc⟩,hae⟩,hlex⟩:=hB
 have hn':n+1<l.length:=by simpa using hn
 have htl:(l.take n).length=n:=by simp;omega
 have hdl:(l.drop (n+1)).length=l.toArray.size - (n+1):=by simp
 have hae':oa.after=#[]:=by
  unfold noAfter at hae
  rw [hna] at hae
  exact Array.isEmpty_iff.1 hae
 have hwant:∀ a:Act,Region.wanted oa (yielded l.toArray a.tmps)=true:=fun a=>by unfold Region.wanted;rw [hg]
 have inv0:HeadInv .any l.toArray (n+1) (Array.replicate l.toArray.size false):=
  ⟨by simp,fun j oj _ hl=>(by rw [getD_replicate_false] at hl;cases hl),fun t _ ht=>getD_in (by simpa using ht) (getD_replicate_false _ _)⟩
 have hR:=rel_of (P:=P) (ops:=l.toArray) (W:=W) (l.take n) a (fun B hB=>h B hB (fun x b o hb=>(hB.trans x.h).cells.1 b o hb) (fun x b o hb=>(hB.trans x.h).cells.2 b o hb))
 have hR2:wpQuietR P l.toArray W (fun a'=>∀ w0,Gr W w0→(fun (w0:World) (a2:Act)=>∀ w',Gr (w0.alloc o) w'→wpList P l.toArray Q (l.drop (n+1)) a2 w') w0 (a'.put oa.dst (.pointer (some ⟨w0.heap.size,0,none⟩)))) (l.take n) a:=by
  have mono:∀ (Q1 Q2:Act→Prop),(∀ a,Q1 a→Q2 a)→∀ (k:List Oper) (a:Act),wpQuietR P l.toArray W Q1 k a→wpQuietR P l.toArray W Q2 k a:=by
   intro Q1 Q2 hq k
   induction k with
   | nil=>intro a h;exact hq _ h
   | cons o1 k ih=>intro a ⟨v,h1,h2⟩;exact⟨v,h1,ih _ h2⟩
  exact mono _ _ (fun a' h0 w0 hw0=>h0 (w0.alloc o) (hw0.alloc o) w0 hw0 rfl) _ _ hR
 have H:=madeAny_lex (P:=P) (W:=W) (md:=.any) (g:=l.toArray.size - (n+1)) (o:=o) (Lq:=fun (w0:World) (a2:Act)=>∀ w',Gr (w0.alloc o) w'→wpList P l.toArray Q (l.drop (n+1)) a2 w') hna rfl hsel hs hc hn hae' (l.take n) 0 _ a (fun j hj=>by
  have hj':j<n:=by rw [htl] at hj;exact hj
  simp [hj']) (by simpa using htl) inv0 (getD_in (by simp at hn ⊢;omega) (getD_replicate_false _ _)) (by rw [htl];exact hlex) hR2
 refine wp_region_any hm ?_
 have:=madeAny_wp (Q':=Q) (g:=l.toArray.size - (n+1)) (W:=W) hna rfl hwant hz (fun w0 hw0 listed a' w' hw' hL=>by
  have:=wpAny_of_seq (md:=.any) (Q':=Q) (l.drop (n+1)) (n+1) listed a' w' (fun j=>by simp [List.getElem?_drop]) (by rw [hdl];exact hL.1) (hL.2 w' hw')
  rwa [hdl] at this) _ _ _ { W with drawn:=W.drawn+1 } ((Gr.refl W).drew) H
 rw [htl,show n+1+(l.toArray.size - (n+1))=l.toArray.size by omega] at this
 exact this
end
theorem cells_of_block {w:World} {b:Nat} {c:Array Value} {t:TypeId} (h:w.heap[b]?=some (.cells c t (0,0))) (j:Nat):w.cell? ⟨b,j,none⟩=c[j]?:=by simp [World.cell?,h]
theorem mark_of_block {w:World} {b:Nat} {c:Array Value} {t:TypeId} (h:w.heap[b]?=some (.cells c t (0,0))) (j:Nat):w.frozen? ⟨b,j,none⟩=false:=by simp [World.frozen?,h]
theorem block_gr {W w:World} {b:Nat} {o:Obj} (hg:Gr W w) (h:W.heap[b]?=some o):w.heap[b]?=some o:=by rw [Below.block hg b (lt_of_block h)];exact h
section
variable {P:Program} {ops:Array Oper} {md:Region.Mode}
theorem YR.mono {W B:World} (hB:Gr W B) {o:Oper} {v:Value} {a:Act} (h:YR P ops W o v a):YR P ops B o v a:=by
 rcases h with ⟨h1,h2⟩ | h
 ·exact .inl ⟨h1,fun x hx=>h2 x (hB.trans hx)⟩
 ·exact .inr h
theorem wpQuietR_mono {W:World} (Q1 Q2:Act→Prop) (hq:∀ a,Q1 a→Q2 a):∀ (k:List Oper) (a:Act),wpQuietR P ops W Q1 k a→wpQuietR P ops W Q2 k a
 | [],a,h=>hq _ h
 | o :: k,a,⟨v,h1,h2⟩=>⟨v,h1,wpQuietR_mono Q1 Q2 hq k _ h2⟩
theorem wp_region_made1 {id:Nat} {Q:Exit→Act→World→Prop} {a:Act} {W:World} {l:List Oper} (n:Nat) (o:Obj) (oa:Oper) (hm:P.follows .mixedOrders=true) (hB:lexMadeB .any l.toArray n=true) (hna:l.toArray[n]?=some oa) (hg:oa.guard=none)
  (hz:∀ (a:Act) (w:World),(execOp a.eval oa).run P w=.ok (.value (.pointer (some ⟨w.heap.size,0,none⟩))) (w.alloc o))
  (h:∀ B,Gr W B→(∀ (x:GW B) (b o:Nat),b<W.heap.size→x.w.cell? ⟨b,o,none⟩=W.cell? ⟨b,o,none⟩)→(∀ (x:GW B) (b o:Nat),b<W.heap.size→x.w.frozen? ⟨b,o,none⟩=W.frozen? ⟨b,o,none⟩) →
   wpQuiet P l.toArray (fun w'=>∃ x:GW B,w'=x.w) (fun a'=>∀ g w',Gr W w'→W.heap.size≤g→w'.heap[g]?=some o→wpList P l.toArray Q (l.drop (n+1)) (a'.put oa.dst (.pointer (some ⟨g,0,none⟩))) w') (l.take n) a):(Code.region id l.toArray true).wp P Q a W:=by
 refine wp_region_gr_made n o oa hm hB hna hg hz (fun B hB h1 h2=>?_)
 have mono:∀ (C:World→Prop) (Q1 Q2:Act→Prop),(∀ a,Q1 a→Q2 a)→∀ (k:List Oper) (a:Act),wpQuiet P l.toArray C Q1 k a→wpQuiet P l.toArray C Q2 k a:=by
  intro C Q1 Q2 hq k
  induction k with
  | nil=>intro a h;exact hq _ h
  | cons o1 k ih=>
   intro a h
   unfold wpQuiet at h ⊢
   split
   ·rename_i hw;simp only [hw,if_true] at h;obtain⟨v,h1,h2⟩:=h;exact⟨v,h1,ih _ h2⟩
   ·rename_i hw;simp only [hw,Bool.false_eq_true,if_false] at h;exact ih _ h
 exact mono _ _ _ (fun a' hq w0 hw0 hBe w' hw'=>hq w0.heap.size w' ((hw0.alloc o).trans hw') hw0.size (block_gr hw' (heap_alloc_new w0 o))) _ _ (h B hB h1 h2)
end
def only (K:Act→World→Prop):Exit→Act→World→Prop
 | .normal,a,w=>K a w
 | _,_,_=>False
theorem only_normal {K:Act→World→Prop} {a:Act} {w:World} (h:K a w):only K .normal a w:=h
theorem letsOut_only {K:Act→World→Prop} (h:LetsOut (only K)):False:=by
 obtain⟨_,_,h⟩:=h
 exact h
section
variable {P:Program} {ops:Array Oper} {md:Region.Mode} {Q:Exit→Act→World→Prop}
theorem wp_only {K0 K K':Act→World→Prop} {o:Oper} {a:Act} {w:World} (h:∀ a w,K a w→K' a w) (hh:o.wp P a w K (only K0)):o.wp P a w K' Q:=by
 unfold Oper.wp at *
 generalize (execOp a.eval o).run P w=r at *
 cases r with
 | ok n w'=>
  cases n <;> simp only [Oper.upon] at hh ⊢
  case value u=>exact h _ _ hh
  case skip=>exact h _ _ hh
  case defer d=>exact h _ _ hh
  case enter f args=>
   refine Calls.mono hh fun e w'' he=>?_
   cases e with
   | returned u=>exact h _ _ he
   | panicked c=>exact absurd he (fun x=>x)
   | outgrown=>exact absurd he letsOut_only
  case row row args=>exact Rows.mono hh fun u w'' he=>h _ _ he
 | halt x w'=>
  cases x <;> simp only [Oper.upon] at hh ⊢
  case panic u=>exact absurd hh (fun x=>x)
theorem wpOp_only {K0 K K':Act→World→Prop} {i:Nat} {a:Act} {w:World} (h:∀ a w,K a w→K' a w) (hh:wpOp P ops (only K0) i K a w):wpOp P ops Q i K' a w:=by
 unfold wpOp at *
 split
 ·exact h _ _ (by simpa [*] using hh)
 ·rename_i o ho
  simp only [ho] at hh
  split
  ·rename_i hw
   simp only [hw,if_true] at hh
   rcases hh with hh | ⟨_,hl⟩
   ·exact .inl (wp_only h hh)
   ·exact (letsOut_only hl).elim
  ·rename_i hw;simp only [hw] at hh;exact h _ _ hh
theorem YR.of_same {W:World} {o:Oper} {v:Value} {a a':Act} (hy:YR P ops W o v a) (he:execOp a'.eval o=execOp a.eval o)
  (hw:Region.wanted o (yielded ops a'.tmps)=Region.wanted o (yielded ops a.tmps)):YR P ops W o v a':=by
 unfold YR Oper.quietAt at *
 rw [he,hw]
 exact hy
theorem wpOp_putYR {W:World} {K0:Act→World→Prop} {j:Nat} {oi oj:Oper} {v:Value} (hj:ops[j]?=some oj) (hap:oi.apart ops oj=true)
  (hsi:∀ cs b,oi.op≠.select cs b) (hsj:∀ cs b,oj.op≠.select cs b) {K:Act→World→Prop} {a:Act} {w:World}
  (hy:YR P ops W oi v a) (h:wpOp P ops (only K0) j K (a.put oi.dst v) w) :
  wpOp P ops (only K0) j (fun a' w'=>YR P ops W oi v a'∧K (a'.put oi.dst v) w') a w:=by
 obtain⟨h1,h2,h3⟩:=Oper.apart_spec hap
 have keep:∀ (a:Act),YR P ops W oi v a→∀ u,YR P ops W oi v (a.put oj.dst u):=fun a hy u=>
  hy.of_same (execOp_put oi hsi a oj.dst u h3) (wanted_put oi a oj.dst u h3)
 have keepD:∀ d,YR P ops W oi v { a with defers:=d :: a.defers }:=fun d=>hy.of_same rfl rfl
 unfold wpOp at *
 simp only [hj] at *
 rw [wanted_put oj a oi.dst v h1] at h
 split
 ·rename_i hw
  simp only [hw,if_true] at h
  rcases h with h | ⟨hasks,hlets⟩
  case inr=>exact (letsOut_only hlets).elim
  refine .inl ?_
  unfold Oper.wp at *
  rw [execOp_put oj hsj a oi.dst v h1] at h
  generalize (execOp a.eval oj).run P w=r at *
  cases r with
  | ok n w'=>
   cases n <;> simp only [Oper.upon] at h ⊢
   case value u=>exact⟨keep a hy u,by rw [← Act.put_comm a v u h2];exact h⟩
   case skip=>exact⟨keep a hy _,by rw [← Act.put_comm a v undef h2];exact h⟩
   case defer d=>
    refine⟨keep _ (keepD d) _,?_⟩
    rw [← Act.put_comm _ v undef h2,← Act.put_defers]
    exact h
   case enter f args=>
    refine Calls.mono h fun e w'' he=>?_
    cases e with
    | returned u=>exact⟨keep a hy u,by rw [← Act.put_comm a v u h2];exact he⟩
    | panicked c=>exact he
    | outgrown=>exact he
   case row row args=>exact Rows.mono h fun u w'' he=>⟨keep a hy u,by rw [← Act.put_comm a v u h2];exact he⟩
  | halt x w'=>
   cases x <;> simp only [Oper.upon] at h ⊢
   case panic u=>exact h
 ·rename_i hw
  simp only [hw] at h
  exact⟨keep a hy _,by rw [← Act.put_comm a v undef h2];exact h⟩
def mixAny (P:Program) (md:Region.Mode) (ops:Array Oper) (Q:Exit→Act→World→Prop) (W:World) (n:Nat):Nat→Array Bool→Act→World→Prop
 | 0,listed,a,w=>Region.ready md ops listed=[]∧∀ w',Gr w w'→Q .normal a w'
 | f+1,listed,a,w=>Region.ready md ops listed≠[]∧∀ i∈Region.ready md ops listed,
   (i<n∧qOp P ops (fun w'=>Gr w w') i (fun a'=>mixAny P md ops Q W n f (listed.setIfInBounds i true) a' w) a) ∨
   (n≤i∧∀ w',Gr w w'→wpOp P ops (only fun _ _=>True) i (fun a' w''=>Gr W w''∧mixAny P md ops Q W n f (listed.setIfInBounds i true) a' w'') a w')
theorem mixAny_wp {W:World} {n:Nat}:∀ (f:Nat) (listed:Array Bool) (a:Act) (w w':World),Gr w w'→mixAny P md ops Q W n f listed a w→wpAny P md ops Q f listed a w'
 | 0,listed,a,w,w',hg,h=>⟨h.1,h.2 w' hg⟩
 | f+1,listed,a,w,w',hg,h=>by
  refine⟨fun h0=>absurd h0 h.1,fun i hi=>?_⟩
  rcases h.2 i hi with ⟨_,h2⟩ | ⟨_,h2⟩
  ·exact wpOp_of_qOp hg (fun a' w'' hw'' h'=>mixAny_wp f _ a' w w'' hw'' h') h2
  ·exact wpOp_only (fun a' w'' h'=>mixAny_wp f _ a' w'' w'' (Gr.refl _) h'.2) (h2 w' hg)
theorem mixAny_first {W:World} {n i:Nat} {oi:Oper} {v:Value} (hi:ops[i]?=some oi) (hsel:∀ (j:Nat) (o:Oper) cs b,ops[j]?=some o→o.op≠.select cs b) (hin:i<n) :
  ∀ (f:Nat) (listed:Array Bool) (a:Act) (w:World),Gr W w →
   (∀ j oj,ops[j]?=some oj→j≠i→listed.getD j true=false→(∀ e∈oj.after,Region.binds md e=true→e.on≠i)→oi.apart ops oj=true) →
   i∈Region.ready md ops listed→YR P ops W oi v a →
   mixAny P md ops Q W n f (listed.setIfInBounds i true) (a.put oi.dst v) w→mixAny P md ops Q W n (f+1) listed a w:=by
 intro f
 induction f with
 | zero=>
  intro listed a w hW hfree hr hy H
  refine⟨fun h=>(by rw [h] at hr;cases hr),fun j hj=>?_⟩
  by_cases hji:j=i
  ·subst hji;exact .inl ⟨hin,(hy.yields hW).qOp hi H⟩
  ·have:=ready_mono hj hji
   rw [H.1] at this
   cases this
 | succ f ih=>
  intro listed a w hW hfree hr hy H
  refine⟨fun h=>(by rw [h] at hr;cases hr),fun j hj=>?_⟩
  by_cases hji:j=i
  ·subst hji;exact .inl ⟨hin,(hy.yields hW).qOp hi H⟩
  ·obtain⟨hjun,oj,hoj,hall⟩:=mem_ready.1 hj
   have hnot:∀ e∈oj.after,Region.binds md e=true→e.on≠i:=fun e he hb heq=>by
    have h1:=hall e he hb
    rw [heq,getD_both (mem_ready.1 hr).1] at h1
    cases h1
   have hap:=hfree j oj hoj hji hjun hnot
   obtain⟨k1,k2,k3⟩:=Oper.apart_spec hap
   have hfree':∀ k ok,ops[k]?=some ok→k≠i→(listed.setIfInBounds j true).getD k true=false →
     (∀ e∈ok.after,Region.binds md e=true→e.on≠i)→oi.apart ops ok=true:=fun k ok hk hki hun' hno=>by
    refine hfree k ok hk hki ?_ hno
    by_cases hjk:j=k
    ·subst hjk;exact hjun
    ·rw [getD_set_ne true hjk] at hun';exact hun'
   rcases H.2 j (ready_mono hj hji) with ⟨h0,h1⟩ | ⟨h0,h1⟩
   ·refine .inl ⟨h0,qOp_mono (fun a' h3=>?_) (qOp_put2 hoj hap (fun cs b=>hsel j oj cs b hoj) h1)⟩
    obtain⟨⟨u,rfl⟩,h4⟩:=h3
    refine ih (listed.setIfInBounds j true) _ w hW hfree' (ready_mono hr (Ne.symm hji)) (hy.keep (fun cs b=>hsel i oi cs b hi) k3) ?_
    rw [Array.setIfInBounds_comm _ _ hji]
    exact h4
   ·refine .inr ⟨h0,fun w' hw'=>?_⟩
    have h2:=wpOp_putYR hoj hap (fun cs b=>hsel i oi cs b hi) (fun cs b=>hsel j oj cs b hoj) hy (h1 w' hw')
    refine wpOp_mono (fun a' w'' h3=>⟨h3.2.1,ih (listed.setIfInBounds j true) a' w'' h3.2.1 hfree' (ready_mono hr (Ne.symm hji)) h3.1 ?_⟩) h2
    rw [Array.setIfInBounds_comm _ _ hji]
    exact h3.2.2
def loudRun (P:Program) (ops:Array Oper) (Q:Exit→Act→World→Prop) (W:World):List Oper→Act→World→Prop
 | [],a,w=>∀ w',Gr w w'→Q .normal a w'
 | o :: l,a,w=>∀ w',Gr w w'→wpList P ops (only fun a' w''=>Gr W w''∧loudRun P ops Q W l a' w'') [o] a w'
theorem loudRun_nil {W:World} {a:Act} {w:World} (h:∀ w',Gr w w'→Q .normal a w'):loudRun P ops Q W [] a w:=h
theorem loudRun_cons {W:World} {o:Oper} {l:List Oper} {a:Act} {w:World} (h:∀ (R:Act→World→Prop),(∀ a' w'',Gr W w''→loudRun P ops Q W l a' w''→R a' w'')→∀ w',Gr w w'→wpList P ops (only R) [o] a w'):loudRun P ops Q W (o :: l) a w:=
 fun w' hw'=>h _ (fun _ _ h1 h2=>⟨h1,h2⟩) w' hw'
theorem mix_of_seq {W:World} {n:Nat}:∀ (l:List Oper) (k:Nat) (listed:Array Bool) (a:Act) (w:World),(∀ j,l[j]?=ops[k+j]?)→n≤k →
  Region.seqB md ops l.length k listed=true→loudRun P ops Q W l a w→mixAny P md ops Q W n l.length listed a w
 | [],_,_,_,_,_,_,hB,h=>⟨by simpa [Region.seqB] using hB,h⟩
 | o :: l,k,listed,a,w,hl,hk,hB,h=>by
  have h0:ops[k]?=some o:=by simpa using (hl 0).symm
  simp only [List.length_cons,Region.seqB,Bool.and_eq_true,decide_eq_true_eq] at hB
  refine⟨fun h1=>(by rw [hB.1] at h1;cases h1),fun i hi=>?_⟩
  rw [hB.1] at hi
  have hik:i=k:=by simpa using hi
  subst hik
  refine .inr ⟨hk,fun w' hw'=>?_⟩
  have hw:wpOp P ops (only fun a' w''=>Gr W w''∧loudRun P ops Q W l a' w'') i (wpList P ops (only fun a' w''=>Gr W w''∧loudRun P ops Q W l a' w'') []) a w':=by
   unfold wpOp;simp only [h0];exact h w' hw'
  exact wpOp_only (fun a' w'' h'=>⟨h'.1,mix_of_seq l (i+1) _ a' w'' (fun j=>by have:=hl (j+1);simpa [Nat.add_assoc,Nat.add_comm 1 j] using this) (by omega) hB.2 h'.2⟩) hw
theorem mix_lex {W W1:World} {n g:Nat} (hW1:Gr W W1) (hsel:Region.noSelect ops=true) :
  ∀ (l:List Oper) (k:Nat) (listed:Array Bool) (a:Act),(∀ j,j<l.length→l[j]?=ops[k+j]?)→k+l.length=n →
  Region.lexHead md ops g l.length k listed=true →
  wpQuietR P ops W (fun a'=>∀ listed',Region.seqB md ops g n listed'=true→mixAny P md ops Q W n g listed' a' W1) l a→mixAny P md ops Q W n (l.length+g) listed a W1
 | [],k,listed,a,_,hk,hB,h=>by
  have:k=n:=by simpa using hk
  subst this
  rw [List.length_nil,Nat.zero_add]
  exact h listed (by simpa [Region.lexHead] using hB)
 | o :: l,k,listed,a,hl,hk,hB,h=>by
  have h0:ops[k]?=some o:=by simpa using (hl 0 (by simp)).symm
  simp only [List.length_cons,Region.lexHead,Bool.and_eq_true] at hB
  obtain⟨⟨hr,hf⟩,hB'⟩:=hB
  have hkn:k<n:=by simp only [List.length_cons] at hk;omega
  have hr':k∈Region.ready md ops listed:=by simpa using hr
  obtain⟨v,hy,hK⟩:=h
  rw [show (o :: l).length+g=(l.length+g)+1 by simp only [List.length_cons];omega]
  exact mixAny_first h0 (Region.noSelect_spec hsel) hkn (l.length+g) listed a W1 hW1 (Region.free_spec h0 hf) hr' hy
   (mix_lex hW1 hsel l (k+1) _ _ (fun j hj=>by have:=hl (j+1) (by simp;omega);simpa [Nat.add_assoc,Nat.add_comm 1 j] using this) (by simp only [List.length_cons] at hk;omega) hB' hK)
def lexMixB (md:Region.Mode) (ops:Array Oper) (n:Nat):Bool:=
 Region.noSelect ops && decide (n≤ops.size) && Region.lexHead md ops (ops.size - n) n 0 (Array.replicate ops.size false)
theorem wp_region_mix_on {id:Nat} {a:Act} {W1:World} {l:List Oper} (n:Nat) (W:World) (hW1:Gr W W1) (hm:P.follows .mixedOrders=true) (hB:lexMixB .any l.toArray n=true)
  (h:∀ B,Gr W B→(∀ (x:GW B) (b o:Nat),b<W.heap.size→x.w.cell? ⟨b,o,none⟩=W.cell? ⟨b,o,none⟩)→(∀ (x:GW B) (b o:Nat),b<W.heap.size→x.w.frozen? ⟨b,o,none⟩=W.frozen? ⟨b,o,none⟩) →
   wpQuiet P l.toArray (fun w'=>∃ x:GW B,w'=x.w) (fun a'=>loudRun P l.toArray Q W (l.drop n) a' W1) (l.take n) a):(Code.region id l.toArray true).wp P Q a W1:=by
 simp only [lexMixB,Bool.and_eq_true,decide_eq_true_eq] at hB
 obtain⟨⟨hsel,hn⟩,hlex⟩:=hB
 have hn':n≤l.length:=by simpa using hn
 have htl:(l.take n).length=n:=by simp;omega
 have hdl:(l.drop n).length=l.toArray.size - n:=by simp
 have hR:=rel_of (P:=P) (ops:=l.toArray) (W:=W) (l.take n) a (fun B hB=>h B hB (fun x b o hb=>(hB.trans x.h).cells.1 b o hb) (fun x b o hb=>(hB.trans x.h).cells.2 b o hb))
 have hR2:=wpQuietR_mono (P:=P) (ops:=l.toArray) (W:=W) _ (fun a'=>∀ listed',Region.seqB .any l.toArray (l.toArray.size - n) n listed'=true→mixAny P .any l.toArray Q W n (l.toArray.size - n) listed' a' W1) (fun a' h0 listed' hs=>by
  have:=mix_of_seq (P:=P) (ops:=l.toArray) (Q:=Q) (W:=W) (md:=.any) (n:=n) (l.drop n) n listed' a' W1 (fun j=>by simp [List.getElem?_drop]) (Nat.le_refl n) (by rw [hdl];exact hs) (h0 W (Gr.refl W))
  rwa [hdl] at this) _ _ hR
 have H:=mix_lex (P:=P) (ops:=l.toArray) (Q:=Q) (W:=W) (W1:=W1) (md:=.any) (n:=n) (g:=l.toArray.size - n) hW1 hsel (l.take n) 0 (Array.replicate l.toArray.size false) a (fun j hj=>by
  have hj':j<n:=by rw [htl] at hj;exact hj
  simp [hj']) (by rw [htl];omega) (by rw [htl];exact hlex) hR2
 rw [htl,show n+(l.toArray.size - n)=l.toArray.size by simp;omega] at H
 exact wp_region_any hm (mixAny_wp _ _ _ _ { W1 with drawn:=W1.drawn+1 } ((Gr.refl W1).drew) H)
theorem wp_region_mix {id:Nat} {a:Act} {W:World} {l:List Oper} (n:Nat) (hm:P.follows .mixedOrders=true) (hB:lexMixB .any l.toArray n=true)
  (h:∀ B,Gr W B→(∀ (x:GW B) (b o:Nat),b<W.heap.size→x.w.cell? ⟨b,o,none⟩=W.cell? ⟨b,o,none⟩)→(∀ (x:GW B) (b o:Nat),b<W.heap.size→x.w.frozen? ⟨b,o,none⟩=W.frozen? ⟨b,o,none⟩) →
   wpQuiet P l.toArray (fun w'=>∃ x:GW B,w'=x.w) (fun a'=>loudRun P l.toArray Q W (l.drop n) a' W) (l.take n) a):(Code.region id l.toArray true).wp P Q a W:=
 wp_region_mix_on n W (Gr.refl W) hm hB h
end
section
variable {P:Program} {ops:Array Oper} {md:Region.Mode} {Q:Exit→Act→World→Prop}
def Pure (P:Program) (ops:Array Oper) (S:World→Prop) (o:Oper) (v:Value) (a:Act):Prop:=
 o.guard=none∧∀ w,S w→(execOp a.eval o).run P w=.ok (.value v) w
theorem wanted_noguard {o:Oper} (h:o.guard=none) (y:Nat→Option Bool):Region.wanted o y=true:=by
 unfold Region.wanted;rw [h]
theorem Pure.wpOp {S:World→Prop} {i:Nat} {o:Oper} {v:Value} {a:Act} {w:World} {K:Act→World→Prop} (hi:ops[i]?=some o) (h:Pure P ops S o v a) (hw:S w) (hK:K (a.put o.dst v) w):wpOp P ops Q i K a w:=by
 unfold Go.wpOp
 simp only [hi]
 rw [wanted_noguard h.1]
 simp only [if_true]
 refine .inl ?_
 unfold Oper.wp
 rw [h.2 w hw]
 exact hK
theorem Pure.put {S:World→Prop} {oi oj:Oper} {v u:Value} {a:Act} (hsi:∀ cs b,oi.op≠.select cs b) (h3:∀ d,oj.dst=some d→d∉oi.looksAt ops) (h:Pure P ops S oi v a):Pure P ops S oi v (a.put oj.dst u):=by
 refine⟨h.1,fun w hw=>?_⟩
 rw [execOp_put oi hsi a oj.dst u h3]
 exact h.2 w hw
theorem wpOp_putP {S:World→Prop} {K0:Act→World→Prop} {j:Nat} {oi oj:Oper} {v:Value} (hj:ops[j]?=some oj) (hap:oi.apart ops oj=true)
  (hsi:∀ cs b,oi.op≠.select cs b) (hsj:∀ cs b,oj.op≠.select cs b) {K:Act→World→Prop} {a:Act} {w:World}
  (hy:Pure P ops S oi v a) (h:wpOp P ops (only K0) j K (a.put oi.dst v) w) :
  wpOp P ops (only K0) j (fun a' w'=>Pure P ops S oi v a'∧K (a'.put oi.dst v) w') a w:=by
 obtain⟨h1,h2,h3⟩:=Oper.apart_spec hap
 have keep:∀ (a:Act),Pure P ops S oi v a→∀ u,Pure P ops S oi v (a.put oj.dst u):=fun a hy u=>hy.put hsi h3
 have keepD:∀ d,Pure P ops S oi v { a with defers:=d :: a.defers }:=fun d=>hy
 unfold wpOp at *
 simp only [hj] at *
 rw [wanted_put oj a oi.dst v h1] at h
 split
 ·rename_i hw
  simp only [hw,if_true] at h
  rcases h with h | ⟨hasks,hlets⟩
  case inr=>exact (letsOut_only hlets).elim
  refine .inl ?_
  unfold Oper.wp at *
  rw [execOp_put oj hsj a oi.dst v h1] at h
  generalize (execOp a.eval oj).run P w=r at *
  cases r with
  | ok n w'=>
   cases n <;> simp only [Oper.upon] at h ⊢
   case value u=>exact⟨keep a hy u,by rw [← Act.put_comm a v u h2];exact h⟩
   case skip=>exact⟨keep a hy _,by rw [← Act.put_comm a v undef h2];exact h⟩
   case defer d=>
    refine⟨keep _ (keepD d) _,?_⟩
    rw [← Act.put_comm _ v undef h2,← Act.put_defers]
    exact h
   case enter f args=>
    refine Calls.mono h fun e w'' he=>?_
    cases e with
    | returned u=>exact⟨keep a hy u,by rw [← Act.put_comm a v u h2];exact he⟩
    | panicked c=>exact he
    | outgrown=>exact he
   case row row args=>exact Rows.mono h fun u w'' he=>⟨keep a hy u,by rw [← Act.put_comm a v u h2];exact he⟩
  | halt x w'=>
   cases x <;> simp only [Oper.upon] at h ⊢
   case panic u=>exact h
 ·rename_i hw
  simp only [hw] at h
  exact⟨keep a hy _,by rw [← Act.put_comm a v undef h2];exact h⟩
def waitsFor (md:Region.Mode) (ops:Array Oper) (j i:Nat):Prop:=∃ o,ops[j]?=some o∧∃ e∈o.after,Region.binds md e=true∧e.on=i
def stillAny (P:Program) (md:Region.Mode) (ops:Array Oper) (Q:Exit→Act→World→Prop) (S:Nat→World→Prop):Nat→Array Bool→Act→World→Prop
 | 0,listed,a,w=>Region.ready md ops listed=[]∧Q .normal a w
 | f+1,listed,a,w=>Region.ready md ops listed≠[]∧∀ j∈Region.ready md ops listed,
   wpOp P ops (only fun _ _=>True) j (fun a' w'=>(∀ i,¬ waitsFor md ops j i→S i w→S i w')∧stillAny P md ops Q S f (listed.setIfInBounds j true) a' w') a w
theorem stillAny_wp {S:Nat→World→Prop}:∀ (f:Nat) (listed:Array Bool) (a:Act) (w:World),stillAny P md ops Q S f listed a w→wpAny P md ops Q f listed a w
 | 0,listed,a,w,h=>h
 | f+1,listed,a,w,h=>⟨fun h0=>absurd h0 h.1,fun j hj=>wpOp_only (fun a' w' h'=>stillAny_wp f _ a' w' h'.2) (h.2 j hj)⟩
theorem stillAny_first {S:Nat→World→Prop} {i:Nat} {oi:Oper} {v:Value} (hi:ops[i]?=some oi) (hsel:∀ (j:Nat) (o:Oper) cs b,ops[j]?=some o→o.op≠.select cs b) :
  ∀ (f:Nat) (listed:Array Bool) (a:Act) (w:World),S i w →
   (∀ j oj,ops[j]?=some oj→j≠i→listed.getD j true=false→(∀ e∈oj.after,Region.binds md e=true→e.on≠i)→oi.apart ops oj=true) →
   i∈Region.ready md ops listed→Pure P ops (S i) oi v a →
   stillAny P md ops Q S f (listed.setIfInBounds i true) (a.put oi.dst v) w→stillAny P md ops Q S (f+1) listed a w:=by
 intro f
 induction f with
 | zero=>
  intro listed a w hW hfree hr hy H
  refine⟨fun h=>(by rw [h] at hr;cases hr),fun j hj=>?_⟩
  by_cases hji:j=i
  ·subst hji;exact hy.wpOp hi hW ⟨fun _ _ h=>h,H⟩
  ·have:=ready_mono hj hji
   rw [H.1] at this
   cases this
 | succ f ih=>
  intro listed a w hW hfree hr hy H
  refine⟨fun h=>(by rw [h] at hr;cases hr),fun j hj=>?_⟩
  by_cases hji:j=i
  ·subst hji;exact hy.wpOp hi hW ⟨fun _ _ h=>h,H⟩
  ·obtain⟨hjun,oj,hoj,hall⟩:=mem_ready.1 hj
   have hnot:∀ e∈oj.after,Region.binds md e=true→e.on≠i:=fun e he hb heq=>by
    have h1:=hall e he hb
    rw [heq,getD_both (mem_ready.1 hr).1] at h1
    cases h1
   have hnw:¬ waitsFor md ops j i:=fun ⟨o,ho,e,he,hb,heq⟩=>by
    rw [hoj] at ho
    injection ho with ho
    subst ho
    exact hnot e he hb heq
   have hap:=hfree j oj hoj hji hjun hnot
   have hfree':∀ k ok,ops[k]?=some ok→k≠i→(listed.setIfInBounds j true).getD k true=false →
     (∀ e∈ok.after,Region.binds md e=true→e.on≠i)→oi.apart ops ok=true:=fun k ok hk hki hun' hno=>by
    refine hfree k ok hk hki ?_ hno
    by_cases hjk:j=k
    ·subst hjk;exact hjun
    ·rw [getD_set_ne true hjk] at hun';exact hun'
   have h1:=H.2 j (ready_mono hj hji)
   have h2:=wpOp_putP hoj hap (fun cs b=>hsel i oi cs b hi) (fun cs b=>hsel j oj cs b hoj) hy h1
   refine wpOp_mono (fun a' w'' h3=>⟨h3.2.1,ih (listed.setIfInBounds j true) a' w'' (h3.2.1 i hnw hW) hfree' (ready_mono hr (Ne.symm hji)) h3.1 ?_⟩) h2
   rw [Array.setIfInBounds_comm _ _ hji]
   exact h3.2.2
theorem still_pure {S:Nat→World→Prop} (i:Nat) {oi:Oper} {v:Value} {f:Nat} {listed:Array Bool} {a:Act} {w:World} (hi:ops[i]?=some oi) (hsel:Region.noSelect ops=true)
  (hf:Region.free md ops listed i=true) (hr:(Region.ready md ops listed).contains i=true) (hS:S i w) (hg:oi.guard=none) (hy:∀ w,S i w→(execOp a.eval oi).run P w=.ok (.value v) w)
  (h:stillAny P md ops Q S f (listed.setIfInBounds i true) (a.put oi.dst v) w):stillAny P md ops Q S (f+1) listed a w:=
 stillAny_first hi (Region.noSelect_spec hsel) f listed a w hS (Region.free_spec hi hf) (by simpa using hr) ⟨hg,hy⟩ h
theorem still_pick {S:Nat→World→Prop} {f:Nat} {listed:Array Bool} {a:Act} {w:World} (l:List Nat) (hl:Region.ready md ops listed=l) (hn:l≠[])
  (h:∀ j∈l,wpOp P ops (only fun _ _=>True) j (fun a' w'=>(∀ i,¬ waitsFor md ops j i→S i w→S i w')∧stillAny P md ops Q S f (listed.setIfInBounds j true) a' w') a w):stillAny P md ops Q S (f+1) listed a w:=
 ⟨by rw [hl];exact hn,by rw [hl];exact h⟩
theorem still_one {S:Nat→World→Prop} {f j:Nat} {oj:Oper} {listed:Array Bool} {a:Act} {w:World} (hj:ops[j]?=some oj)
  (h:∀ R:Act→World→Prop,(∀ a' w',(∀ i,¬ waitsFor md ops j i→S i w→S i w')→stillAny P md ops Q S f (listed.setIfInBounds j true) a' w'→R a' w')→wpList P ops (only R) [oj] a w) :
  wpOp P ops (only fun _ _=>True) j (fun a' w'=>(∀ i,¬ waitsFor md ops j i→S i w→S i w')∧stillAny P md ops Q S f (listed.setIfInBounds j true) a' w') a w:=by
 have h1:=h (fun a' w'=>(∀ i,¬ waitsFor md ops j i→S i w→S i w')∧stillAny P md ops Q S f (listed.setIfInBounds j true) a' w') (fun _ _ h1 h2=>⟨h1,h2⟩)
 have hw:wpOp P ops (only fun a' w'=>(∀ i,¬ waitsFor md ops j i→S i w→S i w')∧stillAny P md ops Q S f (listed.setIfInBounds j true) a' w') j (wpList P ops (only fun a' w'=>(∀ i,¬ waitsFor md ops j i→S i w→S i w')∧stillAny P md ops Q S f (listed.setIfInBounds j true) a' w') []) a w:=by
  unfold wpOp;simp only [hj];exact h1
 exact wpOp_only (fun a' w' h'=>h') hw
theorem still_done {S:Nat→World→Prop} {listed:Array Bool} {a:Act} {w:World} (hr:Region.ready md ops listed=[]) (h:Q .normal a w):stillAny P md ops Q S 0 listed a w:=⟨hr,h⟩
def Keep (N:Nat) (p:World→Prop):Nat→World→Prop:=fun i w=>i<N→p w
theorem Keep.step {N:Nat} {p:World→Prop} {w w':World} {j:Nat} (h:p w→p w'):∀ i,¬ waitsFor md ops j i→Keep N p i w→Keep N p i w':=fun i _ hk hi=>h (hk hi)
def waitsAllB (md:Region.Mode) (ops:Array Oper) (j N:Nat):Bool:=(List.range N).all fun i=>match ops[j]? with | some o=>o.after.any fun e=>Region.binds md e && e.on == i | none=>false
theorem Keep.last {N:Nat} {p:World→Prop} {w w':World} {j:Nat} (hB:waitsAllB md ops j N=true):∀ i,¬ waitsFor md ops j i→Keep N p i w→Keep N p i w':=fun i hn _ hi=>by
 unfold waitsAllB at hB
 have h1:=List.all_eq_true.1 hB i (List.mem_range.2 hi)
 cases ho:ops[j]? with
 | none=>rw [ho] at h1;cases h1
 | some o=>
  rw [ho] at h1
  obtain⟨e,he,h2⟩:=Array.any_eq_true'.1 h1
  simp only [Bool.and_eq_true,beq_iff_eq] at h2
  exact absurd ⟨o,ho,e,he,h2.1,h2.2⟩ hn
theorem wp_region_still {id:Nat} {a:Act} {w:World} (S:Nat→World→Prop) {l:List Oper} (n:Nat) (hl:l.length=n) (hm:P.follows .mixedOrders=true)
  (h:stillAny P .any l.toArray Q S n (Array.replicate n false) a w.drew):(Code.region id l.toArray true).wp P Q a w:=by
 subst hl
 refine wp_region_any hm (stillAny_wp (S:=S) _ _ _ _ ?_)
 simpa using h
end
def Cel (W:World) (g:Nat) (vs:List Value):Prop:=g<W.heap.size∧∀ j v,vs[j]?=some v→W.cell? ⟨g,j,none⟩=some v∧W.frozen? ⟨g,j,none⟩=false
theorem Cel.lt {W:World} {g:Nat} {vs:List Value} (h:Cel W g vs):g<W.heap.size:=h.1
theorem Cel.gr {W w:World} {g:Nat} {vs:List Value} (hg:Gr W w) (h:Cel W g vs):Cel w g vs:=
 ⟨Nat.lt_of_lt_of_le h.1 hg.size,fun j v hv=>⟨by rw [hg.cells.1 g j h.1];exact (h.2 j v hv).1,by rw [hg.cells.2 g j h.1];exact (h.2 j v hv).2⟩⟩
theorem Cel.alloc {W:World} {g:Nat} {vs:List Value} (h:Cel W g vs) (o:Obj):Cel (W.alloc o) g vs:=h.gr ((Gr.refl W).alloc o)
theorem Cel.drew {W:World} {g:Nat} {vs:List Value} (h:Cel W g vs):Cel W.drew g vs:=h.gr (Gr.refl W).drew
theorem Cel.drewN {W:World} {g:Nat} {vs:List Value} (h:Cel W g vs) (n:Nat):Cel (W.drewN n) g vs:=h.gr ((Gr.refl W).drewN n)
theorem Cel.new (W:World) (C:Array Value) (t:TypeId):Cel (W.alloc (.cells C t)) W.heap.size C.toList:=
 ⟨by simp,fun j v hv=>⟨by simpa using hv,by simp⟩⟩
theorem Cel.other {W:World} {g:Nat} {vs:List Value} (h:Cel W g vs) {p:Addr} (hp:p.block≠g) (u:Value):Cel (W.setCell p u) g vs:=by
 refine⟨by simpa using h.1,fun j v hv=>⟨?_,?_⟩⟩
 ·rw [World.cell?_setCell_other (h:=fun e=>hp (by rw [e]))]
  exact (h.2 j v hv).1
 ·rw [World.frozen?_setCell]
  exact (h.2 j v hv).2
theorem Cel.set {W:World} {g k:Nat} {vs:List Value} (h:Cel W g vs) (hk:k<vs.length) (u:Value):Cel (W.setCell ⟨g,k,none⟩ u) g (vs.set k u):=by
 refine⟨by simpa using h.1,fun j v hv=>⟨?_,?_⟩⟩
 ·by_cases hj:k=j
  ·subst hj
   rw [List.getElem?_set_self hk] at hv
   rw [World.cell?_setCell_same (h:=(h.2 k vs[k] (by simp [hk])).1)]
   exact hv
  ·rw [List.getElem?_set_ne hj] at hv
   rw [World.cell?_setCell_other (h:=fun e=>hj (by injection e))]
   exact (h.2 j v hv).1
 ·rw [World.frozen?_setCell]
  by_cases hj:k=j
  ·subst hj
   exact (h.2 k vs[k] (by simp [hk])).2
  ·rw [List.getElem?_set_ne hj] at hv
   exact (h.2 j v hv).2
theorem Cel.out {W:World} {g:Nat} {vs:List Value} (h:Cel W g vs) (j:Nat) (v:Value) (hv:vs[j]?=some v):W.cell? ⟨g,j,none⟩=some v∧W.frozen? ⟨g,j,none⟩=false:=h.2 j v hv
theorem Cel.one {W:World} {g:Nat} {a:Value} (h:Cel W g [a]):W.cell? ⟨g,0,none⟩=some a∧W.frozen? ⟨g,0,none⟩=false:=h.2 0 a rfl
theorem Cel.two {W:World} {g:Nat} {a b:Value} (h:Cel W g [a,b]):g<W.heap.size∧W.cell? ⟨g,0,none⟩=some a∧W.cell? ⟨g,1,none⟩=some b∧W.frozen? ⟨g,0,none⟩=false∧W.frozen? ⟨g,1,none⟩=false:=
 ⟨h.1,(h.2 0 a rfl).1,(h.2 1 b rfl).1,(h.2 0 a rfl).2,(h.2 1 b rfl).2⟩
end Go.Proofs.YtnginfangeikpaaGreatDoor
