/-
  Contract of parseKind of package edl.
  Conditions: the words lie in memory; the listed variables of strconv hold errors.
-/
import Derived.Test.YtgbiodnfpbhjiaaGreatDoorWalkXn
import Derived.Test.YtgbiodnfpbhjiaaGreatDoorShelfB
namespace Go.Proofs.YtgbiodnfpbhjiaaGreatDoor
open Go.RowKit Go.Lib
set_option linter.unusedSimpArgs false
set_option linter.unusedVariables false
theorem cmp_nilIface (w:World):(binOp .eql 145 .nilIface .nilIface).run Tryz.prog w=.ok (.bool true) w:=by simp [go_sem]
theorem cmp_iface (w:World) (N:Nat):(binOp .eql 145 (.iface 289 (.pointer (some ⟨N,0,none⟩))) .nilIface).run Tryz.prog w=.ok (.bool false) w:=by simp [go_sem]
theorem gd_nilIface (x:Operand) (w:World):(eqGuard .eql 145 x (.const .nilIface) .nilIface .nilIface).run Tryz.prog w=.ok () w:=by simp [go_sem,eqGuard]
theorem gd_iface (x:Operand) (w:World) (N:Nat):(eqGuard .eql 145 x (.const .nilIface) (.iface 289 (.pointer (some ⟨N,0,none⟩))) .nilIface).run Tryz.prog w=.ok () w:=by simp [go_sem,eqGuard]
def KdP (b o n:Nat) (s0 s1:ByteArray) (k p fr:Int) (ok:Bool) (a:Option Addr) (m:Nat):Prop:=
 ∃ j,(∀ r,KdR (s0.data.toList :: s1.data.toList :: r) k p fr j ok)∧j≤2∧(ok=true→m=n - j∧(m≠0→a=some ⟨b,o+j,none⟩))
set_option maxRecDepth 20000 in
set_option maxHeartbeats 4000000 in
theorem kind_core (b o n cap:Nat) (s0 s1:ByteArray) (w:World) (hb:b<w.heap.size) (hn:2≤n) (hc:n≤cap) (c0:w.cell? ⟨b,o,none⟩=some (.string s0)) (c1:w.cell? ⟨b,o+1,none⟩=some (.string s1))
  (HP:Hid (∀ w',Gr w w'→Calls Tryz.prog 180 #[.string s1,.int .i64 10,.int .i64 64] w' fun e w''=>∃ (x:Int) (V:Value) (okv:Bool),e=.returned (.tuple #[.int .i64 x,V])∧Gr w' w''∧Hid (∀ y,Lib.parseIntB 64 s1.data.toList=.ok y→okv=true∧x=y)∧(∀ w,(binOp .eql 145 V .nilIface).run Tryz.prog w=.ok (.bool okv) w)∧(∀ x w,(eqGuard .eql 145 x (.const .nilIface) V .nilIface).run Tryz.prog w=.ok () w))) :
  Calls Tryz.prog 141 #[.slice (some ⟨b,o,none⟩) n cap] w fun e w'=>∃ (k p fr:Int) (ok:Bool) (a:Option Addr) (m c:Nat),e=.returned (.tuple #[evK k p fr,.slice a m c,.bool ok])∧Gr w w'∧KdP b o n s0 s1 k p fr ok a m:=by
 have hR0:=Cel.new w #[.int .i64 0,.int .i64 0,.int .i64 0,.string ⟨#[]⟩,.int .i64 0,.int .i64 0,.int .i64 0,.int .i64 0] 30
 have hg0:Gr w (w.alloc (.cells #[.int .i64 0,.int .i64 0,.int .i64 0,.string ⟨#[]⟩,.int .i64 0,.int .i64 0,.int .i64 0,.int .i64 0] 30)):=(Gr.refl w).alloc _
 simp only [List.toList_toArray] at hR0
 have i0:(0:Int)<(n:Int):=by omega
 have i0':0<n:=by omega
 have i1:(1:Int)<(n:Int):=by omega
 have i1':1<n:=by omega
 have hbw:=hg0.size
 by_cases hA:s0.data.toList=[67]
 ·have qA:(s0.toList == [67])=true:=by rw [bl_iff];exact decide_eq_true hA
  have hK:KdP b o n s0 s1 0 0 0 true (some ⟨b,o+1,none⟩) (n - 1):=⟨1,fun r=>by rw [hA];exact kd_c,by omega,fun _=>⟨rfl,fun _=>rfl⟩⟩
  replace hK:=Lib.hid hK
  clear hA HP
  go_enter Tryz.func141,Tryz.ntmps141
  go_upto_region 2 with fail
  generalize w.alloc (.cells #[.int .i64 0,.int .i64 0,.int .i64 0,.string ⟨#[]⟩,.int .i64 0,.int .i64 0,.int .i64 0,.int .i64 0] 30)=W at *
  obtain⟨R,hR⟩:∃ R,w.heap.size=R:=⟨_,rfl⟩
  rw [hR] at hR0 ⊢
  replace hR:=Lib.hid hR
  have hRd:=hR0.drew
  have hgd:=hg0.drew
  refine wp_region_still (Keep 3 (fun wz=>Cel wz R [.int .i64 0,.int .i64 0,.int .i64 0,.string ⟨#[]⟩,.int .i64 0,.int .i64 0,.int .i64 0,.int .i64 0])) 6 rfl (by as_aux_lemma=>kernel_rfl) ?_
  show stillAny _ _ _ _ _ _ #[false,false,false,false,false,false] _ _
  generalize W.drew=W1 at *
  refine still_pure 0 (v:=.agg #[.int .i64 0,.int .i64 0,.int .i64 0,.string ⟨#[]⟩,.int .i64 0,.int .i64 0,.int .i64 0,.int .i64 0]) rfl (by as_aux_lemma=>kernel_rfl) (by as_aux_lemma=>kernel_rfl) (by as_aux_lemma=>kernel_rfl) (fun _=>hRd) rfl (fun w hw=>?_) ?_
  ·replace hw:=hw (by decide)
   have hq0:=hw.lt
   have hq1:=(hw.2 0 _ rfl).1
   have hq2:=(hw.2 1 _ rfl).1
   have hq3:=(hw.2 2 _ rfl).1
   have hq4:=(hw.2 3 _ rfl).1
   have hq5:=(hw.2 4 _ rfl).1
   have hq6:=(hw.2 5 _ rfl).1
   have hq7:=(hw.2 6 _ rfl).1
   have hq8:=(hw.2 7 _ rfl).1
   (try simp at hq0 hq1 hq2 hq3 hq4 hq5 hq6 hq7 hq8)
   simp [execOp,go_sem,hq0,hq1,hq2,hq3,hq4,hq5,hq6,hq7,hq8]
  simp only [Act.put,zI,zS,zZ]
  refine still_pure 1 (v:=.slice (some ⟨b,o,none⟩) n cap) rfl (by as_aux_lemma=>kernel_rfl) (by as_aux_lemma=>kernel_rfl) (by as_aux_lemma=>kernel_rfl) (fun _=>hRd) rfl (fun w hw=>?_) ?_
  ·simp [execOp,go_sem] <;> (intros;omega)
  simp only [Act.put,zI,zS,zZ]
  refine still_pure 2 (v:=.slice (some ⟨b,o+1,none⟩) (n - 1) (cap - 1)) rfl (by as_aux_lemma=>kernel_rfl) (by as_aux_lemma=>kernel_rfl) (by as_aux_lemma=>kernel_rfl) (fun _=>hRd) rfl (fun w hw=>?_) ?_
  ·have e1:(1:Int)≤(n:Int):=by omega
   have e2:¬ cap=1:=by omega
   simp [execOp,go_sem,e1,e2]
  simp only [Act.put,zI,zS,zZ]
  have r0:=hRd.lt
  obtain⟨r1,v1⟩:=hRd.2 0 _ rfl
  obtain⟨r2,v2⟩:=hRd.2 1 _ rfl
  obtain⟨r3,v3⟩:=hRd.2 2 _ rfl
  obtain⟨r4,v4⟩:=hRd.2 3 _ rfl
  obtain⟨r5,v5⟩:=hRd.2 4 _ rfl
  obtain⟨r6,v6⟩:=hRd.2 5 _ rfl
  obtain⟨r7,v7⟩:=hRd.2 6 _ rfl
  obtain⟨r8,v8⟩:=hRd.2 7 _ rfl
  refine still_next (j:=3) (by as_aux_lemma=>kernel_rfl) (by rfl) (fun R hR=>?_)
  (try simp only [zG,zH,zK])
  go_wp2_with fail
  refine only_normal (hR _ _ (Keep.step (fun h=>(((((((h.set (k:=0) (by simp) _).set (k:=1) (by simp) _).set (k:=2) (by simp) _).set (k:=3) (by simp) _).set (k:=4) (by simp) _).set (k:=5) (by simp) _).set (k:=6) (by simp) _).set (k:=7) (by simp) _)) ?_)
  clear hR R
  simp only [Act.put,zI,zS,zZ]
  refine still_next (j:=4) (by as_aux_lemma=>kernel_rfl) (by rfl) (fun R hR=>?_)
  (try simp only [zG,zH,zK])
  go_wp2_with fail
  refine only_normal (hR _ _ (Keep.step (fun h=>h)) ?_)
  clear hR R
  simp only [Act.put,zI,zS,zZ]
  refine still_next (j:=5) (by as_aux_lemma=>kernel_rfl) (by rfl) (fun R hR=>?_)
  (try simp only [zG,zH,zK])
  go_wp2_with fail
  refine only_normal (hR _ _ (Keep.step (fun h=>h)) ?_)
  clear hR R
  simp only [Act.put,zI,zS,zZ]
  refine still_done (by as_aux_lemma=>kernel_rfl) ?_
  go_wp2
  simp [-Bool.exists_bool,bodyPost,results,Tryz.results141,go_sem,r0,r1,r2,r3,r4,r5,r6,r7,r8]
  refine⟨0,0,0,_,_,_,⟨rfl,⟨rfl,rfl⟩,rfl⟩,?_,hK.out⟩
  have hRo:=hR.out
  repeat (first | (with_reducible exact hgd) | (with_reducible refine Gr.setCell ?_ (by simp;omega) _))
 ·have qA:(s0.toList == [67])=false:=by rw [bl_iff];exact decide_eq_false hA
  obtain⟨a2,ha2⟩:∃ a2:Option Addr,(if cap=2 then some ⟨b,o,none⟩ else some ⟨b,o+2,none⟩)=a2:=⟨_,rfl⟩
  have hA2:n - 2≠0→a2=some ⟨b,o+2,none⟩:=fun h=>by rw [← ha2,if_neg (by omega)]
  replace ha2:=Lib.hid ha2
  go_enter Tryz.func141,Tryz.ntmps141
  go_upto_region 4 with (go_at_call 180;(with_reducible refine (HP.out _ hg0).mono ?_);rintro e w2 ⟨x,V,okv,rfl,hg2,hpi,hcmp,hcgd⟩)
  have hgw:=hg0.trans hg2
  have hR2:=hR0.gr hg2
  obtain⟨R,hR⟩:∃ R,w.heap.size=R:=⟨_,rfl⟩
  rw [hR] at hR2 ⊢
  clear hR0 hg0 hg2 HP hbw
  have r0:=hR2.lt
  obtain⟨r1,v1⟩:=hR2.2 0 _ rfl
  obtain⟨r2,v2⟩:=hR2.2 1 _ rfl
  obtain⟨r3,v3⟩:=hR2.2 2 _ rfl
  obtain⟨r4,v4⟩:=hR2.2 3 _ rfl
  obtain⟨r5,v5⟩:=hR2.2 4 _ rfl
  obtain⟨r6,v6⟩:=hR2.2 5 _ rfl
  obtain⟨r7,v7⟩:=hR2.2 6 _ rfl
  obtain⟨r8,v8⟩:=hR2.2 7 _ rfl
  go_upto_region 5 with fail
  have hR4:=(hR2.set (k:=0) (by simp) (.int .i64 1)).set (k:=2) (by simp) (.int .i64 x)
  simp only [zS,zZ] at hR4
  have hg4:Gr w ((w2.setCell ⟨R,0,none⟩ (.int .i64 1)).setCell ⟨R,2,none⟩ (.int .i64 x)):=(hgw.setCell (by simp;omega) _).setCell (by simp;omega) _
  clear r0 r1 r2 r3 r4 r5 r6 r7 r8 v1 v2 v3 v4 v5 v6 v7 v8
  clear hR2 hgw
  generalize (w2.setCell ⟨R,0,none⟩ (.int .i64 1)).setCell ⟨R,2,none⟩ (.int .i64 x)=W4 at *
  have d0:=(hg4.cells.1 b _ hb).trans c0
  have d1:=(hg4.cells.1 b _ hb).trans c1
  by_cases hD:s0.data.toList=[68]
  ·have qD:(s0.toList == [68])=true:=by simp [bl_iff,hD]
   have hK:KdP b o n s0 s1 1 0 x okv a2 (n - 2):=⟨2,fun r=>by rw [hD];exact kd_d hpi.out,by omega,fun _=>⟨rfl,hA2⟩⟩
   replace hK:=Lib.hid hK
   clear hA hD hpi hA2
   replace hR:=Lib.hid hR
   go_upto_region 10 with fail
   have hRo:=hR.out
   clear d0 d1 c0 c1
   have hRd:=hR4.drew
   have hgd:=hg4.drew
   refine wp_region_still (Keep 5 (fun wz=>Cel wz R [.int .i64 1,.int .i64 0,.int .i64 x,.string ⟨#[]⟩,.int .i64 0,.int .i64 0,.int .i64 0,.int .i64 0])) 8 rfl (by as_aux_lemma=>kernel_rfl) ?_
   show stillAny _ _ _ _ _ _ #[false,false,false,false,false,false,false,false] _ _
   generalize W4.drew=W1 at *
   refine still_pure 0 (v:=.agg #[.int .i64 1,.int .i64 0,.int .i64 x,.string ⟨#[]⟩,.int .i64 0,.int .i64 0,.int .i64 0,.int .i64 0]) rfl (by as_aux_lemma=>kernel_rfl) (by as_aux_lemma=>kernel_rfl) (by as_aux_lemma=>kernel_rfl) (fun _=>hRd) rfl (fun w hw=>?_) ?_
   ·replace hw:=hw (by decide)
    have hq0:=hw.lt
    have hq1:=(hw.2 0 _ rfl).1
    have hq2:=(hw.2 1 _ rfl).1
    have hq3:=(hw.2 2 _ rfl).1
    have hq4:=(hw.2 3 _ rfl).1
    have hq5:=(hw.2 4 _ rfl).1
    have hq6:=(hw.2 5 _ rfl).1
    have hq7:=(hw.2 6 _ rfl).1
    have hq8:=(hw.2 7 _ rfl).1
    (try simp at hq0 hq1 hq2 hq3 hq4 hq5 hq6 hq7 hq8)
    simp [execOp,go_sem,hq0,hq1,hq2,hq3,hq4,hq5,hq6,hq7,hq8]
   simp only [Act.put,zI,zS,zZ]
   refine still_pure 1 (v:=.slice (some ⟨b,o,none⟩) n cap) rfl (by as_aux_lemma=>kernel_rfl) (by as_aux_lemma=>kernel_rfl) (by as_aux_lemma=>kernel_rfl) (fun _=>hRd) rfl (fun w hw=>?_) ?_
   ·simp [execOp,go_sem] <;> (intros;omega)
   simp only [Act.put,zI,zS,zZ]
   refine still_pure 2 (v:=.slice a2 (n - 2) (cap - 2)) rfl (by as_aux_lemma=>kernel_rfl) (by as_aux_lemma=>kernel_rfl) (by as_aux_lemma=>kernel_rfl) (fun _=>hRd) rfl (fun w hw=>?_) ?_
   ·have e1:(2:Int)≤(n:Int):=by omega
    simp [execOp,go_sem,e1,ha2.out]
   simp only [Act.put,zI,zS,zZ]
   refine still_pure 3 (v:=V) rfl (by as_aux_lemma=>kernel_rfl) (by as_aux_lemma=>kernel_rfl) (by as_aux_lemma=>kernel_rfl) (fun _=>hRd) rfl (fun w hw=>?_) ?_
   ·simp [execOp,go_sem] <;> (intros;omega)
   simp only [Act.put,zI,zS,zZ]
   refine still_pure 4 (v:=.bool okv) rfl (by as_aux_lemma=>kernel_rfl) (by as_aux_lemma=>kernel_rfl) (by as_aux_lemma=>kernel_rfl) (fun _=>hRd) rfl (fun w hw=>?_) ?_
   ·simp [execOp,go_sem,hcgd,hcmp w]
   simp only [Act.put,zI,zS,zZ]
   have r0:=hRd.lt
   obtain⟨r1,v1⟩:=hRd.2 0 _ rfl
   obtain⟨r2,v2⟩:=hRd.2 1 _ rfl
   obtain⟨r3,v3⟩:=hRd.2 2 _ rfl
   obtain⟨r4,v4⟩:=hRd.2 3 _ rfl
   obtain⟨r5,v5⟩:=hRd.2 4 _ rfl
   obtain⟨r6,v6⟩:=hRd.2 5 _ rfl
   obtain⟨r7,v7⟩:=hRd.2 6 _ rfl
   obtain⟨r8,v8⟩:=hRd.2 7 _ rfl
   refine still_next (j:=5) (by as_aux_lemma=>kernel_rfl) (by rfl) (fun R hR=>?_)
   (try simp only [zG,zH,zK])
   go_wp2_with fail
   refine only_normal (hR _ _ (Keep.step (fun h=>((((((((h.set (k:=0) (by simp) _).set (k:=1) (by simp) _).set (k:=2) (by simp) _).set (k:=3) (by simp) _).set (k:=4) (by simp) _).set (k:=5) (by simp) _).set (k:=6) (by simp) _).set (k:=7) (by simp) _))) ?_)
   clear hR R
   simp only [Act.put,zI,zS,zZ]
   refine still_next (j:=6) (by as_aux_lemma=>kernel_rfl) (by rfl) (fun R hR=>?_)
   (try simp only [zG,zH,zK])
   go_wp2_with fail
   refine only_normal (hR _ _ (Keep.step (fun h=>h)) ?_)
   clear hR R
   simp only [Act.put,zI,zS,zZ]
   refine still_next (j:=7) (by as_aux_lemma=>kernel_rfl) (by rfl) (fun R hR=>?_)
   (try simp only [zG,zH,zK])
   go_wp2_with fail
   refine only_normal (hR _ _ (Keep.step (fun h=>h)) ?_)
   clear hR R
   simp only [Act.put,zI,zS,zZ]
   refine still_done (by as_aux_lemma=>kernel_rfl) ?_
   go_wp2
   simp [-Bool.exists_bool,bodyPost,results,Tryz.results141,go_sem,r0,r1,r2,r3,r4,r5,r6,r7,r8]
   refine⟨1,0,x,okv,_,_,⟨rfl,⟨rfl,rfl⟩,rfl⟩,?_,hK.out⟩
   repeat (first | (with_reducible exact hgd) | (with_reducible refine Gr.setCell ?_ (by simp;omega) _))
  ·have qD:(s0.toList == [68])=false:=by simp [bl_iff,hD]
   have r0:=hR4.lt
   obtain⟨r1,v1⟩:=hR4.2 0 _ rfl
   obtain⟨r2,v2⟩:=hR4.2 1 _ rfl
   obtain⟨r3,v3⟩:=hR4.2 2 _ rfl
   obtain⟨r4,v4⟩:=hR4.2 3 _ rfl
   obtain⟨r5,v5⟩:=hR4.2 4 _ rfl
   obtain⟨r6,v6⟩:=hR4.2 5 _ rfl
   obtain⟨r7,v7⟩:=hR4.2 6 _ rfl
   obtain⟨r8,v8⟩:=hR4.2 7 _ rfl
   go_upto_region 7 with fail
   have hR6:=hR4.set (k:=0) (by simp) (.int .i64 2)
   simp only [zS,zZ] at hR6
   have hg6:Gr w (W4.setCell ⟨R,0,none⟩ (.int .i64 2)):=hg4.setCell (by simp;omega) _
   clear r0 r1 r2 r3 r4 r5 r6 r7 r8 v1 v2 v3 v4 v5 v6 v7 v8
   clear hR4 d0 d1
   generalize W4.setCell ⟨R,0,none⟩ (.int .i64 2)=W6 at *
   have d0:=(hg6.cells.1 b _ hb).trans c0
   by_cases hz:s0.size=2
   ·have qz:((s0.size:Int) != 2)=false:=by simp;omega
    have qz':(s0.size != 2)=false:=by simp [hz]
    have z0:(0:Int)<(s0.size:Int):=by omega
    have z0':0<s0.size:=by omega
    have z1:(1:Int)<(s0.size:Int):=by omega
    have z1':1<s0.size:=by omega
    obtain⟨y0,hy0⟩:∃ y0,s0[0]=y0:=⟨_,rfl⟩
    obtain⟨y1,hy1⟩:∃ y1,s0[1]=y1:=⟨_,rfl⟩
    have hdl:s0.data.toList=[y0,y1]:=by
     rw [← hy0,← hy1]
     apply List.ext_getElem
     ·rw [ba_len];exact hz
     ·intro k h1 h2
      have:k=0∨k=1:=by simp at h2;omega
      rcases this with rfl | rfl <;> rfl
    by_cases h87:y0=87
    ·have q87:((y0.toNat:Int) != 87)=false:=by rw [h87];rfl
     have hy1b:=y1.toNat_lt
     have hsub:IntKind.i64.wrap ((y1.toNat:Int) - 48)=(y1.toNat:Int) - 48:=by rw [IntKind.wrap_i64];omega
     have hcv:IntKind.i64.wrap (y1.toNat:Int)=(y1.toNat:Int):=by rw [IntKind.wrap_i64];omega
     have hK:KdP b o n s0 s1 2 ((y1.toNat:Int) - 48) x okv a2 (n - 2):=⟨2,fun r=>by rw [hdl,h87];exact kd_w hpi.out,by omega,fun _=>⟨rfl,hA2⟩⟩
     replace hK:=Lib.hid hK
     clear hA hD hpi hA2 hdl
     have r0:=hR6.lt
     obtain⟨r1,v1⟩:=hR6.2 0 _ rfl
     obtain⟨r2,v2⟩:=hR6.2 1 _ rfl
     obtain⟨r3,v3⟩:=hR6.2 2 _ rfl
     obtain⟨r4,v4⟩:=hR6.2 3 _ rfl
     obtain⟨r5,v5⟩:=hR6.2 4 _ rfl
     obtain⟨r6,v6⟩:=hR6.2 5 _ rfl
     obtain⟨r7,v7⟩:=hR6.2 6 _ rfl
     obtain⟨r8,v8⟩:=hR6.2 7 _ rfl
     replace hR:=Lib.hid hR
     go_upto_region 10 with fail
     have hR9:=hR6.set (k:=1) (by simp) (.int .i64 ((y1.toNat:Int) - 48))
     simp only [zS,zZ] at hR9
     have hg9:Gr w (W6.setCell ⟨R,1,none⟩ (.int .i64 ((y1.toNat:Int) - 48))):=hg6.setCell (by have:=hR.out;simp;omega) _
     clear r0 r1 r2 r3 r4 r5 r6 r7 r8 v1 v2 v3 v4 v5 v6 v7 v8
     clear hR6 d0 c0 c1
     generalize W6.setCell ⟨R,1,none⟩ (.int .i64 ((y1.toNat:Int) - 48))=W9 at *
     have hRo:=hR.out
     have hRd:=hR9.drew
     have hgd:=hg9.drew
     refine wp_region_still (Keep 5 (fun wz=>Cel wz R [.int .i64 2,.int .i64 ((y1.toNat:Int) - 48),.int .i64 x,.string ⟨#[]⟩,.int .i64 0,.int .i64 0,.int .i64 0,.int .i64 0])) 8 rfl (by as_aux_lemma=>kernel_rfl) ?_
     show stillAny _ _ _ _ _ _ #[false,false,false,false,false,false,false,false] _ _
     generalize W9.drew=W1 at *
     refine still_pure 0 (v:=.agg #[.int .i64 2,.int .i64 ((y1.toNat:Int) - 48),.int .i64 x,.string ⟨#[]⟩,.int .i64 0,.int .i64 0,.int .i64 0,.int .i64 0]) rfl (by as_aux_lemma=>kernel_rfl) (by as_aux_lemma=>kernel_rfl) (by as_aux_lemma=>kernel_rfl) (fun _=>hRd) rfl (fun w hw=>?_) ?_
     ·replace hw:=hw (by decide)
      have hq0:=hw.lt
      have hq1:=(hw.2 0 _ rfl).1
      have hq2:=(hw.2 1 _ rfl).1
      have hq3:=(hw.2 2 _ rfl).1
      have hq4:=(hw.2 3 _ rfl).1
      have hq5:=(hw.2 4 _ rfl).1
      have hq6:=(hw.2 5 _ rfl).1
      have hq7:=(hw.2 6 _ rfl).1
      have hq8:=(hw.2 7 _ rfl).1
      (try simp at hq0 hq1 hq2 hq3 hq4 hq5 hq6 hq7 hq8)
      simp [execOp,go_sem,hq0,hq1,hq2,hq3,hq4,hq5,hq6,hq7,hq8]
     simp only [Act.put,zI,zS,zZ]
     refine still_pure 1 (v:=.slice (some ⟨b,o,none⟩) n cap) rfl (by as_aux_lemma=>kernel_rfl) (by as_aux_lemma=>kernel_rfl) (by as_aux_lemma=>kernel_rfl) (fun _=>hRd) rfl (fun w hw=>?_) ?_
     ·simp [execOp,go_sem] <;> (intros;omega)
     simp only [Act.put,zI,zS,zZ]
     refine still_pure 2 (v:=.slice a2 (n - 2) (cap - 2)) rfl (by as_aux_lemma=>kernel_rfl) (by as_aux_lemma=>kernel_rfl) (by as_aux_lemma=>kernel_rfl) (fun _=>hRd) rfl (fun w hw=>?_) ?_
     ·have e1:(2:Int)≤(n:Int):=by omega
      simp [execOp,go_sem,e1,ha2.out]
     simp only [Act.put,zI,zS,zZ]
     refine still_pure 3 (v:=V) rfl (by as_aux_lemma=>kernel_rfl) (by as_aux_lemma=>kernel_rfl) (by as_aux_lemma=>kernel_rfl) (fun _=>hRd) rfl (fun w hw=>?_) ?_
     ·simp [execOp,go_sem] <;> (intros;omega)
     simp only [Act.put,zI,zS,zZ]
     refine still_pure 4 (v:=.bool okv) rfl (by as_aux_lemma=>kernel_rfl) (by as_aux_lemma=>kernel_rfl) (by as_aux_lemma=>kernel_rfl) (fun _=>hRd) rfl (fun w hw=>?_) ?_
     ·simp [execOp,go_sem,hcgd,hcmp w]
     simp only [Act.put,zI,zS,zZ]
     have r0:=hRd.lt
     obtain⟨r1,v1⟩:=hRd.2 0 _ rfl
     obtain⟨r2,v2⟩:=hRd.2 1 _ rfl
     obtain⟨r3,v3⟩:=hRd.2 2 _ rfl
     obtain⟨r4,v4⟩:=hRd.2 3 _ rfl
     obtain⟨r5,v5⟩:=hRd.2 4 _ rfl
     obtain⟨r6,v6⟩:=hRd.2 5 _ rfl
     obtain⟨r7,v7⟩:=hRd.2 6 _ rfl
     obtain⟨r8,v8⟩:=hRd.2 7 _ rfl
     refine still_next (j:=5) (by as_aux_lemma=>kernel_rfl) (by rfl) (fun R hR=>?_)
     (try simp only [zG,zH,zK])
     go_wp2_with fail
     refine only_normal (hR _ _ (Keep.step (fun h=>((((((((h.set (k:=0) (by simp) _).set (k:=1) (by simp) _).set (k:=2) (by simp) _).set (k:=3) (by simp) _).set (k:=4) (by simp) _).set (k:=5) (by simp) _).set (k:=6) (by simp) _).set (k:=7) (by simp) _))) ?_)
     clear hR R
     simp only [Act.put,zI,zS,zZ]
     refine still_next (j:=6) (by as_aux_lemma=>kernel_rfl) (by rfl) (fun R hR=>?_)
     (try simp only [zG,zH,zK])
     go_wp2_with fail
     refine only_normal (hR _ _ (Keep.step (fun h=>h)) ?_)
     clear hR R
     simp only [Act.put,zI,zS,zZ]
     refine still_next (j:=7) (by as_aux_lemma=>kernel_rfl) (by rfl) (fun R hR=>?_)
     (try simp only [zG,zH,zK])
     go_wp2_with fail
     refine only_normal (hR _ _ (Keep.step (fun h=>h)) ?_)
     clear hR R
     simp only [Act.put,zI,zS,zZ]
     refine still_done (by as_aux_lemma=>kernel_rfl) ?_
     go_wp2
     simp [-Bool.exists_bool,bodyPost,results,Tryz.results141,go_sem,r0,r1,r2,r3,r4,r5,r6,r7,r8]
     refine⟨2,(y1.toNat:Int) - 48,x,okv,_,_,⟨rfl,⟨rfl,rfl⟩,rfl⟩,?_,hK.out⟩
     repeat (first | (with_reducible exact hgd) | (with_reducible refine Gr.setCell ?_ (by simp;omega) _))
    ·have q87:((y0.toNat:Int) != 87)=true:=by
      have:y0.toNat≠87:=fun h=>h87 (by rw [← UInt8.toNat_inj];exact h)
      simp
      omega
     have hK:KdP b o n s0 s1 0 0 0 false none 0:=⟨0,fun r=>kd_n hA hD (fun q hq=>by rw [hdl] at hq;injection hq with hq _;exact h87 hq),by omega,fun h=>by cases h⟩
     replace hK:=Lib.hid hK
     clear hA hD hpi hA2 hdl
     have r0:=hR6.lt
     obtain⟨r1,v1⟩:=hR6.2 0 _ rfl
     obtain⟨r2,v2⟩:=hR6.2 1 _ rfl
     obtain⟨r3,v3⟩:=hR6.2 2 _ rfl
     obtain⟨r4,v4⟩:=hR6.2 3 _ rfl
     obtain⟨r5,v5⟩:=hR6.2 4 _ rfl
     obtain⟨r6,v6⟩:=hR6.2 5 _ rfl
     obtain⟨r7,v7⟩:=hR6.2 6 _ rfl
     obtain⟨r8,v8⟩:=hR6.2 7 _ rfl
     have hRo:=hR
     replace hR:=Lib.hid hR
     go_wp2
     simp [-Bool.exists_bool,bodyPost,results,Tryz.results141,go_sem,r0,r1,r2,r3,r4,r5,r6,r7,r8]
     refine⟨0,0,0,_,_,_,⟨rfl,⟨rfl,rfl⟩,rfl⟩,?_,hK.out⟩
     repeat (first | (with_reducible exact hg6) | (with_reducible refine Gr.setCell ?_ (by simp;omega) _))
   ·have qz:((s0.size:Int) != 2)=true:=by simp;omega
    have qz':(s0.size != 2)=true:=by simp [hz]
    have hK:KdP b o n s0 s1 0 0 0 false none 0:=⟨0,fun r=>kd_n hA hD (fun q hq=>hz (by rw [← ba_len,hq];rfl)),by omega,fun h=>by cases h⟩
    replace hK:=Lib.hid hK
    clear hA hD hpi hA2
    have r0:=hR6.lt
    obtain⟨r1,v1⟩:=hR6.2 0 _ rfl
    obtain⟨r2,v2⟩:=hR6.2 1 _ rfl
    obtain⟨r3,v3⟩:=hR6.2 2 _ rfl
    obtain⟨r4,v4⟩:=hR6.2 3 _ rfl
    obtain⟨r5,v5⟩:=hR6.2 4 _ rfl
    obtain⟨r6,v6⟩:=hR6.2 5 _ rfl
    obtain⟨r7,v7⟩:=hR6.2 6 _ rfl
    obtain⟨r8,v8⟩:=hR6.2 7 _ rfl
    have hRo:=hR
    replace hR:=Lib.hid hR
    go_wp2
    simp [-Bool.exists_bool,bodyPost,results,Tryz.results141,go_sem,r0,r1,r2,r3,r4,r5,r6,r7,r8]
    refine⟨0,0,0,_,_,_,⟨rfl,⟨rfl,rfl⟩,rfl⟩,?_,hK.out⟩
    repeat (first | (with_reducible exact hg6) | (with_reducible refine Gr.setCell ?_ (by simp;omega) _))
end Go.Proofs.YtgbiodnfpbhjiaaGreatDoor
