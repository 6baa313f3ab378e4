/-
  Contracts of the law's functions still and share.
  Conditions: the event is valid; the frame is one of its first ones.
-/
import Derived.Test.YtnginfangeikpaaGreatDoorShW
import Derived.Test.YtnginfangeikpaaGreatDoorMathSh
import Derived.Test.YtnginfangeikpaaGreatDoorWalkUd
import Derived.Test.YtnginfangeikpaaGreatDoorWalkEe
import Derived.Test.YtnginfangeikpaaGreatDoorWalkTv
namespace Go.Proofs.YtnginfangeikpaaGreatDoor
open Go.RowKit Go.Lib
set_option linter.unusedSimpArgs false
set_option linter.unusedVariables false
theorem exec_ldE {P:Program} {T:TypeId} {k:Nat} (hA:∀ w,(isAgg T).run P w=.ok true w) (hZ:∀ w,(Go.sizeOf T).run P w=.ok k w) (hk0:¬ k=0) {ρ:Operand→Value} {o:Oper} (x:Operand) (ho:o.op=.load T x) (X off:Nat) (hx:ρ x=.pointer (some ⟨X,off,none⟩)) {l:List Value} {w:World}
  (hl:(loadCellsFrom ⟨X,off,none⟩ 0 k #[]).run P w=.ok l.toArray w) (hb:X<w.heap.size):(execOp ρ o).run P w=.ok (.value (.agg l.toArray)) w:=by
 simp [execOp,ho,hx,go_sem,hA,hZ,hl,hb,hk0]
set_option maxRecDepth 20000 in
set_option maxHeartbeats 4000000 in
theorem still_core (k:Nat) (hk8:8=k) (r:ByteArray) (n:Int) (w:World) :
  Calls Tryz.prog 8 #[.string r,.int .i64 n] w fun e w'=>e=.returned (.agg (lfC (stL r n) nilE).toArray)∧Gr w w':=by
 have aE:∀ w,(isAgg 41).run Tryz.prog w=.ok true w:=Tryz.isAgg41
 have zE:∀ w,(Go.sizeOf 41).run Tryz.prog w=.ok k w:=fun w=>by rw [← hk8];exact Tryz.sizeOf41 w
 have hbB:=Blk.new w zeroEx 41
 have hg0:Gr w (w.alloc (.cells zeroEx.toArray 41)):=(Gr.refl w).alloc _
 obtain⟨L,hL⟩:∃ L,lfC (stL r n) nilE=L:=⟨_,rfl⟩
 have hL8:L.length=8:=by rw [← hL];rfl
 have hLo:∀ v∈L,v.oneCell'=true:=by rw [← hL];exact exC_one _ _ _ _ _ _ _ _ _ _
 have hLk:L.length=k:=by rw [hL8,hk8]
 rw [hL]
 replace hk8:=Lib.hid hk8
 replace hL8:=Lib.hid hL8
 replace hL:=Lib.hid hL
 by_cases hr:r.size=0
 ·have q1:r.toList.isEmpty=true:=by rw [size_zero_iff];exact decide_eq_true hr
  have hL2:Hid (lfC .blk nilE=L):=Lib.hid (by rw [← hL.out];unfold stL;rw [if_pos hr])
  go_enter Tryz.func8,Tryz.ntmps8
  go_upto_region 1 with fail
  unfold zeroEx at hbB hg0
  generalize w.alloc (.cells #[.int .i64 0,.string ⟨#[]⟩,.int .i64 0,.int .i64 0,.int .i64 0,.int .i64 0,.string ⟨#[]⟩,.slice none 0 0] 41)=W at *
  have z0:=hbB.lt
  have st:=stB hbB (by rw [hL8.out];rfl) hLo
  have hb2:=blk_set hbB L
  have ld2:=ldB hLk hb2
  have hg2:=gr_setRow hg0 (g:=w.heap.size) (by omega) L.toArray
  go_wp2_with (refine wpList_buildTo rfl 41 #[] rfl (some 7) rfl L.toArray (by rw [← hL2.out];kernel_rfl) ?_)
  simp [bodyPost,results,Tryz.results8,go_sem,aE,zE,ld2]
  exact hg2
 ·have q1:r.toList.isEmpty=false:=by rw [size_zero_iff];exact decide_eq_false hr
  have hL2:Hid (lfC (.src r n) nilE=L):=Lib.hid (by rw [← hL.out];unfold stL;rw [if_neg hr])
  go_enter Tryz.func8,Tryz.ntmps8
  go_upto_region 1 with fail
  unfold zeroEx at hbB hg0
  generalize w.alloc (.cells #[.int .i64 0,.string ⟨#[]⟩,.int .i64 0,.int .i64 0,.int .i64 0,.int .i64 0,.string ⟨#[]⟩,.slice none 0 0] 41)=W at *
  have z0:=hbB.lt
  have st:=stB hbB (by rw [hL8.out];rfl) hLo
  have hb2:=blk_set hbB L
  have ld2:=ldB hLk hb2
  have hg2:=gr_setRow hg0 (g:=w.heap.size) (by omega) L.toArray
  go_wp2_with (refine wpList_buildTo rfl 41 #[(0,.const (.int .i64 1)),(1,.tmp 8),(2,.tmp 9)] rfl (some 10) rfl L.toArray (by rw [← hL2.out];kernel_rfl) ?_)
  simp [bodyPost,results,Tryz.results8,go_sem,aE,zE,ld2]
  exact hg2
theorem still_any (r:ByteArray) (n:Int) (w:World) :
  Calls Tryz.prog 8 #[.string r,.int .i64 n] w fun e w'=>e=.returned (.agg (lfC (stL r n) nilE).toArray)∧Gr w w':=still_core 8 rfl r n w
theorem blkE_at {w:World} {k:Nat} (h:w.heap.size=k) (vs:List Value) (T:TypeId):Blk (w.alloc (.cells vs.toArray T)) k T vs:=by
 subst h
 exact Blk.new w vs T
theorem sh_facts {q f:Int} (h0:0≤q) (h1:q<f) (h2:f≤999):0<gc (q+1) (f+1)∧gc (q+1) (f+1)≤1000∧(q+1).tdiv (gc (q+1) (f+1))=shN (q+1) (f+1)∧(f+1).tdiv (gc (q+1) (f+1))=shD (q+1) (f+1) ∧
  0<shN (q+1) (f+1)∧shN (q+1) (f+1)<shD (q+1) (f+1)∧shD (q+1) (f+1)≤1000∧gc (shN (q+1) (f+1)) (shD (q+1) (f+1))=1:=by
 have g1:=gc_pos_left (q+1) (f+1) (by omega)
 have hq:=gc_quots g1
 obtain⟨α,hα⟩:=gc_dvd_left (q+1) (f+1)
 obtain⟨β,hβ⟩:=gc_dvd_right (q+1) (f+1)
 unfold shN shD
 generalize gc (q+1) (f+1)=G at *
 have e1:(q+1) / G=α:=by rw [hα];exact Int.mul_ediv_cancel_left _ (by omega)
 have e2:(f+1) / G=β:=by rw [hβ];exact Int.mul_ediv_cancel_left _ (by omega)
 have hα0:0<α:=by
  by_cases h:0<α
  ·exact h
  ·have:=Int.mul_le_mul_of_nonneg_left (show α≤0 by omega) (show 0≤G by omega)
   omega
 have hlt:α<β:=by
  by_cases h:α<β
  ·exact h
  ·have:=Int.mul_le_mul_of_nonneg_left (show β≤α by omega) (show 0≤G by omega)
   omega
 have hGβ:β≤G * β:=by
  have:=Int.mul_le_mul_of_nonneg_right (show 1≤G by omega) (show 0≤β by omega)
  omega
 have hGα:G≤G * α:=by
  have:=Int.mul_le_mul_of_nonneg_left (show 1≤α by omega) (show 0≤G by omega)
  omega
 rw [e1,e2] at hq
 rw [Int.tdiv_eq_ediv_of_nonneg (by omega),Int.tdiv_eq_ediv_of_nonneg (by omega),e1,e2]
 exact⟨g1,by omega,rfl,rfl,hα0,hlt,by omega,hq⟩
theorem exec_buildE {P:Program} {t:TypeId} {parts:Array (Nat × Operand)} {ρ:Operand→Value} {o:Oper} (ho:o.op=.build t parts) {cells:Array Value} (hf:P.built t (parts.map fun (i,x)=>(i,ρ x)).toList=some cells) (w:World) :
  (execOp ρ o).run P w=.ok (.value (.agg cells)) w:=by
 have hb:=run_build w t (parts.map fun (i,x)=>(i,ρ x)) cells hf
 simp only [execOp,ho]
 simp only [Sem.run_bind,hb]
 rfl
set_option maxRecDepth 20000 in
set_option maxHeartbeats 8000000 in
theorem share_core (k:Nat) (hk8:8=k) (v:Ev) (q:Int) (x y:Lf) (w:World) (hv:(v.k=1∧v.p=0)∨(v.k=2∧0≤v.p∧v.p≤3)) (h0:0≤q) (h1:q<v.fr) (h2:v.fr≤999) (hx:LfV x) (hy:LfV y) :
  Calls Tryz.prog 9 #[v.val,.int .i64 q,.agg (lfC x nilE).toArray,.agg (lfC y nilE).toArray] w fun e w'=>∃ cs,e=.returned (.agg cs.toArray)∧Gr w w'∧ExF w.heap.size w' cs (redX (v.k+1) (shN (q+1) (v.fr+1)) (shD (q+1) (v.fr+1)) v.p x y):=by
 have aE:∀ w,(isAgg 41).run Tryz.prog w=.ok true w:=Tryz.isAgg41
 have zE:∀ w,(Go.sizeOf 41).run Tryz.prog w=.ok k w:=fun w=>by rw [← hk8];exact Tryz.sizeOf41 w
 have hk0:¬ k=0:=by omega
 obtain⟨lx,hlx⟩:∃ l,lfC x nilE=l:=⟨_,rfl⟩
 obtain⟨ly,hly⟩:∃ l,lfC y nilE=l:=⟨_,rfl⟩
 have hx8:lx.length=8:=by rw [← hlx];rfl
 have hy8:ly.length=8:=by rw [← hly];rfl
 have hxo:∀ v∈lx,v.oneCell'=true:=by rw [← hlx];exact exC_one _ _ _ _ _ _ _ _ _ _
 have hyo:∀ v∈ly,v.oneCell'=true:=by rw [← hly];exact exC_one _ _ _ _ _ _ _ _ _ _
 have hxk:lx.length=k:=by rw [hx8,hk8]
 have hyk:ly.length=k:=by rw [hy8,hk8]
 obtain⟨s1,s2,s3,s4,s5,s6,s7,s8⟩:=sh_facts h0 h1 h2
 have hG:Hid (∀ w',Calls Tryz.prog 22 #[.int .i64 (q+1),.int .i64 (v.fr+1)] w' fun e w''=>e=.returned (.int .i64 (gc (q+1) (v.fr+1)))∧Gr w' w''):=Lib.hid fun w'=>rgcd23_any _ _ w' (by omega) (by omega)
 generalize shN (q+1) (v.fr+1)=N at *
 generalize shD (q+1) (v.fr+1)=D at *
 generalize gc (q+1) (v.fr+1)=G at *
 have HS:Hid (∀ (w':World) (a:Option Addr) (c:Nat),Rd w' (.slice a 2 c) 2 8 (lx ++ ly)→Calls Tryz.prog 23 #[.agg (exC (v.k+1) noTxE 0 N D v.p noTxE (.slice a 2 c)).toArray] w' fun e w''=>∃ cs,e=.returned (.agg cs.toArray)∧Gr w' w''∧ExF w'.heap.size w'' cs (redX (v.k+1) N D v.p x y)):=Lib.hid fun w' a c h=>dsimple_mx (v.k+1) N D v.p x y a c w' (by omega) ⟨s5,s6,by omega⟩ s8 hx hy (by rw [hlx,hly];exact h)
 rw [hlx,hly]
 have hE:=((((Blk.new w v.cells 38).gr ((Gr.refl _).alloc (.cells lx.toArray 41))).gr ((Gr.refl _).alloc (.cells ly.toArray 41))).gr ((Gr.refl _).alloc (.cells zeroEx.toArray 41)))
 have hX:=((blkE_at (w:=w.alloc (.cells v.cells.toArray 38)) (k:=w.heap.size+1) (by simp) lx 41).gr ((Gr.refl _).alloc (.cells ly.toArray 41))).gr ((Gr.refl _).alloc (.cells zeroEx.toArray 41))
 have hY:=(blkE_at (w:=(w.alloc (.cells v.cells.toArray 38)).alloc (.cells lx.toArray 41)) (k:=w.heap.size+1+1) (by simp) ly 41).gr ((Gr.refl _).alloc (.cells zeroEx.toArray 41))
 have hB:=blkE_at (w:=((w.alloc (.cells v.cells.toArray 38)).alloc (.cells lx.toArray 41)).alloc (.cells ly.toArray 41)) (k:=w.heap.size+1+1+1) (by simp) zeroEx 41
 have hg0:Gr w ((((w.alloc (.cells v.cells.toArray 38)).alloc (.cells lx.toArray 41)).alloc (.cells ly.toArray 41)).alloc (.cells zeroEx.toArray 41)):=((((Gr.refl w).alloc _).alloc _).alloc _).alloc _
 replace hk8:=Lib.hid hk8
 replace hx8:=Lib.hid hx8
 replace hy8:=Lib.hid hy8
 replace hlx:=Lib.hid hlx
 replace hly:=Lib.hid hly
 unfold Ev.val
 unfold Ev.cells zeroEx at *
 go_enter Tryz.func9,Tryz.ntmps9
 go_upto_region 1 with fail
 generalize (((w.alloc (.cells #[.int .i64 v.k,.int .i64 v.p,.int .i64 v.fr,.string v.reel,.int .i64 v.i,.int .i64 v.o,.int .i64 v.f,.int .i64 v.t] 38)).alloc (.cells lx.toArray 41)).alloc (.cells ly.toArray 41)).alloc (.cells #[.int .i64 0,.string ⟨#[]⟩,.int .i64 0,.int .i64 0,.int .i64 0,.int .i64 0,.string ⟨#[]⟩,.slice none 0 0] 41)=W at *
 have hWs:=hB.lt
 have z0:=hE.lt
 have z1:=(hE.cel.2 2 _ rfl).1
 refine wp_region_gr (by as_aux_lemma=>kernel_rfl) (by as_aux_lemma=>kernel_rfl) (fun hq1 hq2=>?_)
 repeat (first | go_big_quiet_skip | (go_big_quiet_want;go_big_quiet_op;first | go_big_quiet_on | (apply Exists.intro;refine⟨fun _=>?_,?_⟩;(· (fail));go_big_quiet_on)))
 refine wpQuiet_nil ?_
 clear hq1 hq2
 rintro w1 ⟨⟨_,hg1⟩,rfl⟩
 obtain⟨hc1,hf1⟩:=hg1.cells
 have hz1:=hg1.size
 (try simp at hz1);(try have hl1_0_0:w.heap.size<w1.heap.size:=by omega);(try have hm1_0_0:w.heap.size≤w1.heap.size:=by omega);(try have hl1_0_1:w.heap.size+1<w1.heap.size:=by omega);(try have hl1_0_2:w.heap.size+2<w1.heap.size:=by omega)
 clear z0 z1 hc1 hf1
 go_upto_region 3 with (go_at_call 22;(with_reducible refine (hG.out _).mono ?_);rintro e w2 ⟨rfl,hg2⟩)
 have hgW:=hg1.trans hg2
 have hg02:=hg0.trans hgW
 replace hE:=hE.gr hgW
 replace hX:=hX.gr hgW
 replace hY:=hY.gr hgW
 replace hB:=hB.gr hgW
 have hs2:w.heap.size+1+1+1<w2.heap.size:=hB.lt
 clear hWs hg1 hg2 hgW hz1 hG hg0
 clear W
 obtain⟨M,hM⟩:∃ M:Nat→List Value,M=fun row=>exC 2 noTxE 0 N D v.p noTxE (.slice (some ⟨row,0,none⟩) 2 2):=⟨_,rfl⟩
 go_cut [12] (fun u wx=>∃ g row:Nat,u=.pointer (some ⟨g,0,none⟩)∧Gr w2 wx∧w2.heap.size≤g∧w2.heap.size≤row∧g≠row∧Blk wx g 41 (M row)∧Blk wx row 41 (lx ++ ly))
 case first=>
  refine wp_region_still (Keep 10 (fun x=>Gr w2 x)) 14 rfl (by as_aux_lemma=>kernel_rfl) ?_
  show stillAny _ _ _ _ _ _ #[false,false,false,false,false,false,false,false,false,false,false,false,false,false] _ _
  have hgd:Gr w2 w2.drew:=(Gr.refl w2).drew
  generalize w2.drew=Wd at *
  have hG0:¬ G=0:=by omega
  refine still_pure 0 (v:=.int .i64 (q+1)) rfl (by as_aux_lemma=>kernel_rfl) (by as_aux_lemma=>kernel_rfl) (by as_aux_lemma=>kernel_rfl) (fun _=>hgd) rfl (fun w hw=>?_) ?_
  ·simp [execOp,go_sem] <;> (intros;omega)
  simp only [Act.put,zI,zS,zZ]
  refine still_pure 1 (v:=.int .i64 G) rfl (by as_aux_lemma=>kernel_rfl) (by as_aux_lemma=>kernel_rfl) (by as_aux_lemma=>kernel_rfl) (fun _=>hgd) rfl (fun w hw=>?_) ?_
  ·simp [execOp,go_sem] <;> (intros;omega)
  simp only [Act.put,zI,zS,zZ]
  have wN:IntKind.i64.wrap N=N:=by rw [IntKind.wrap_i64];omega
  have wD:IntKind.i64.wrap D=D:=by rw [IntKind.wrap_i64];omega
  refine still_pure 2 (v:=.int .i64 N) rfl (by as_aux_lemma=>kernel_rfl) (by as_aux_lemma=>kernel_rfl) (by as_aux_lemma=>kernel_rfl) (fun _=>hgd) rfl (fun w hw=>?_) ?_
  ·simp [execOp,go_sem,hG0,s3,wN]
  simp only [Act.put,zG,zH,zK,zI,zS,zZ]
  refine still_pure 3 (v:=.int .i64 (v.fr+1)) rfl (by as_aux_lemma=>kernel_rfl) (by as_aux_lemma=>kernel_rfl) (by as_aux_lemma=>kernel_rfl) (fun _=>hgd) rfl (fun w hw=>?_) ?_
  ·simp [execOp,go_sem] <;> (intros;omega)
  simp only [Act.put,zI,zS,zZ]
  refine still_pure 4 (v:=.int .i64 G) rfl (by as_aux_lemma=>kernel_rfl) (by as_aux_lemma=>kernel_rfl) (by as_aux_lemma=>kernel_rfl) (fun _=>hgd) rfl (fun w hw=>?_) ?_
  ·simp [execOp,go_sem] <;> (intros;omega)
  simp only [Act.put,zI,zS,zZ]
  refine still_pure 5 (v:=.int .i64 D) rfl (by as_aux_lemma=>kernel_rfl) (by as_aux_lemma=>kernel_rfl) (by as_aux_lemma=>kernel_rfl) (fun _=>hgd) rfl (fun w hw=>?_) ?_
  ·simp [execOp,go_sem,hG0,s4,wD]
  simp only [Act.put,zG,zH,zK,zI,zS,zZ]
  refine still_pure 6 (v:=.pointer (some ⟨w.heap.size,1,none⟩)) rfl (by as_aux_lemma=>kernel_rfl) (by as_aux_lemma=>kernel_rfl) (by as_aux_lemma=>kernel_rfl) (fun _=>hgd) rfl (fun w hw=>?_) ?_
  ·simp [execOp,go_sem]
  simp only [Act.put,zG,zH,zK,zI,zS,zZ]
  refine still_pure 7 (v:=.int .i64 v.p) rfl (by as_aux_lemma=>kernel_rfl) (by as_aux_lemma=>kernel_rfl) (by as_aux_lemma=>kernel_rfl) (fun _=>hgd) rfl (fun w hw=>?_) ?_
  ·have hw2:=hE.gr (hw (by decide))
   have q0:=hw2.lt
   have q1:=(hw2.cel.2 1 _ rfl).1
   simp [execOp,go_sem,q0,q1]
  simp only [Act.put,zG,zH,zK,zI,zS,zZ]
  refine still_pure 8 (v:=.agg lx.toArray) rfl (by as_aux_lemma=>kernel_rfl) (by as_aux_lemma=>kernel_rfl) (by as_aux_lemma=>kernel_rfl) (fun _=>hgd) rfl (fun w hw=>?_) ?_
  ·have hw2:=hX.gr (hw (by decide))
   exact exec_ldE aE zE hk0 (.tmp 6) rfl _ 0 rfl (ldB hxk hw2) hw2.lt
  simp only [Act.put,zG,zH,zK,zI,zS,zZ]
  refine still_pure 9 (v:=.agg ly.toArray) rfl (by as_aux_lemma=>kernel_rfl) (by as_aux_lemma=>kernel_rfl) (by as_aux_lemma=>kernel_rfl) (fun _=>hgd) rfl (fun w hw=>?_) ?_
  ·have hw2:=hY.gr (hw (by decide))
   exact exec_ldE aE zE hk0 (.tmp 7) rfl _ 0 rfl (ldB hyk hw2) hw2.lt
  simp only [Act.put,zG,zH,zK,zI,zS,zZ]
  refine still_both (i:=10) (j:=12) (by as_aux_lemma=>kernel_rfl) (by rfl) (by rfl) (fun R hR=>?_) (fun R hR=>?_)
  ·simp only [zG,zH,zK]
   go_wp2_with (refine wpList_bs2 rfl 39 41 (.tmp 29) (.tmp 30) rfl 8 Tryz.underlying39 (by as_aux_lemma=>kernel_rfl) (by decide) (by decide) lx ly hx8.out hy8.out rfl rfl ?_)
   have hgA:=hgd.alloc (.cells (lx ++ ly).toArray 41)
   refine only_normal (hR _ _ (Keep.step (fun h=>h.alloc _)) ?_)
   clear hR R
   simp only [Act.put,zI,zS,zZ]
   have hRow:=Blk.new Wd (lx ++ ly) 41
   obtain⟨m,hm⟩:∃ m,M Wd.heap.size=m:=⟨_,rfl⟩
   have hm8:m.length=8:=by rw [← hm,hM];rfl
   have hmo:∀ v∈m,v.oneCell'=true:=by rw [← hm,hM];exact exC_one _ _ _ _ _ _ _ _ _ _
   have hmk:m.length=k:=by rw [hm8,hk8.out]
   refine still_pure 11 (v:=.agg m.toArray) rfl (by as_aux_lemma=>kernel_rfl) (by as_aux_lemma=>kernel_rfl) (by as_aux_lemma=>kernel_rfl) (fun _=>hgA) rfl (fun w hw=>?_) ?_
   ·exact exec_buildE (t:=41) (parts:=#[(0,.const (.int .i64 2)),(3,.tmp 23),(4,.tmp 26),(5,.tmp 28),(7,.tmp 31)]) rfl (by rw [← hm,hM];kernel_rfl) w
   simp only [Act.put,zG,zH,zK,zI,zS,zZ]
   refine still_next (j:=12) (by as_aux_lemma=>kernel_rfl) (by rfl) (fun R hR=>?_)
   (try simp only [zG,zH,zK])
   have st:=stE (Wd.alloc (.cells (lx ++ ly).toArray 41)) m hm8 hmo
   have hbx:=Blk.new (Wd.alloc (.cells (lx ++ ly).toArray 41)) m 41
   have hR2:=hRow.gr ((Gr.refl _).alloc (.cells m.toArray 41))
   have hgB:=hgA.alloc (.cells m.toArray 41)
   have hsz:=hgd.size
   rw [World.size_alloc] at st hbx
   replace hm8:=Lib.hid hm8
   go_wp2_with fail
   refine only_normal (hR _ _ (Keep.step (fun h=>h.alloc _)) ?_)
   clear hR R
   simp only [Act.put,zI,zS,zZ]
   refine still_next (j:=13) (by as_aux_lemma=>kernel_rfl) (by rfl) (fun R hR=>?_)
   (try simp only [zG,zH,zK])
   go_wp2_with fail
   refine only_normal (hR _ _ (Keep.last (by as_aux_lemma=>kernel_rfl)) ?_)
   clear hR R
   simp only [Act.put,zI,zS,zZ]
   refine still_done (by as_aux_lemma=>kernel_rfl) ?_
   (try simp only [zG,zH,zK,zI,zS,zZ])
   go_wp2_with fail
   go_meet
   case rel=>
    refine⟨Wd.heap.size+1,Wd.heap.size,rfl,hgB,by omega,hsz,by omega,?_,hR2⟩
    rw [hm]
    exact hbx
  ·simp only [zG,zH,zK]
   have hEz:=Blk.new Wd zeroEx 41
   unfold zeroEx at hEz
   have hgA:=hgd.alloc (.cells #[.int .i64 0,.string ⟨#[]⟩,.int .i64 0,.int .i64 0,.int .i64 0,.int .i64 0,.string ⟨#[]⟩,.slice none 0 0] 41)
   have hsz:=hgd.size
   go_wp2_with fail
   refine only_normal (hR _ _ (Keep.step (fun h=>h.alloc _)) ?_)
   clear hR R
   simp only [Act.put,zI,zS,zZ]
   refine still_next (j:=10) (by as_aux_lemma=>kernel_rfl) (by rfl) (fun R hR=>?_)
   (try simp only [zG,zH,zK])
   go_wp2_with (refine wpList_bs2 rfl 39 41 (.tmp 29) (.tmp 30) rfl 8 Tryz.underlying39 (by as_aux_lemma=>kernel_rfl) (by decide) (by decide) lx ly hx8.out hy8.out rfl rfl ?_)
   have hgB:=hgA.alloc (.cells (lx ++ ly).toArray 41)
   have hRow:=Blk.new (Wd.alloc (.cells #[.int .i64 0,.string ⟨#[]⟩,.int .i64 0,.int .i64 0,.int .i64 0,.int .i64 0,.string ⟨#[]⟩,.slice none 0 0] 41)) (lx ++ ly) 41
   have hE2:=hEz.gr ((Gr.refl _).alloc (.cells (lx ++ ly).toArray 41))
   rw [World.size_alloc] at hRow
   refine only_normal (hR _ _ (Keep.step (fun h=>h.alloc _)) ?_)
   clear hR R
   simp only [Act.put,zI,zS,zZ]
   obtain⟨m,hm⟩:∃ m,M (Wd.heap.size+1)=m:=⟨_,rfl⟩
   have hm8:m.length=8:=by rw [← hm,hM];rfl
   have hmo:∀ v∈m,v.oneCell'=true:=by rw [← hm,hM];exact exC_one _ _ _ _ _ _ _ _ _ _
   have hmk:m.length=k:=by rw [hm8,hk8.out]
   refine still_pure 11 (v:=.agg m.toArray) rfl (by as_aux_lemma=>kernel_rfl) (by as_aux_lemma=>kernel_rfl) (by as_aux_lemma=>kernel_rfl) (fun _=>hgB) rfl (fun w hw=>?_) ?_
   ·exact exec_buildE (t:=41) (parts:=#[(0,.const (.int .i64 2)),(3,.tmp 23),(4,.tmp 26),(5,.tmp 28),(7,.tmp 31)]) rfl (by rw [← hm,hM];kernel_rfl) w
   simp only [Act.put,zG,zH,zK,zI,zS,zZ]
   have st:=stB hE2 (l:=m) (by rw [hm8];rfl) hmo
   have hlt:=hE2.lt
   have hb2:=blk_set hE2 m
   have hr2:=blk_setRow_other hRow (g:=Wd.heap.size) (by omega) m.toArray
   have hgC:=gr_setRow hgB (g:=Wd.heap.size) hsz m.toArray
   replace hm8:=Lib.hid hm8
   refine still_next (j:=13) (by as_aux_lemma=>kernel_rfl) (by rfl) (fun R hR=>?_)
   (try simp only [zG,zH,zK])
   go_wp2_with fail
   refine only_normal (hR _ _ (Keep.last (by as_aux_lemma=>kernel_rfl)) ?_)
   clear hR R
   simp only [Act.put,zI,zS,zZ]
   refine still_done (by as_aux_lemma=>kernel_rfl) ?_
   (try simp only [zG,zH,zK,zI,zS,zZ])
   go_wp2_with fail
   go_meet
   case rel=>
    refine⟨Wd.heap.size,Wd.heap.size+1,rfl,hgC,hsz,by omega,by omega,?_,hr2⟩
    rw [hm]
    exact hb2
 case rest=>
  obtain⟨g,row,rfl,hg3,hgg,hgr,hne,hbM,hbR⟩:=hcut
  have hE3:=hE.gr hg3
  have hB3:=hB.gr hg3
  have hg03:=hg02.trans hg3
  have y0:=hE3.lt
  have y1:=(hE3.cel.2 0 _ rfl).1
  have hb12:=hbM.lt
  have hRd:∀ w',Blk w' row 41 (lx ++ ly)→Rd w' (.slice (some ⟨row,0,none⟩) 2 2) 2 8 (lx ++ ly):=fun w' hb=>⟨by rw [List.length_append,hx8.out,hy8.out],_,_,rfl,.inr ⟨row,0,rfl,hb.lt,fun j u hu=>by
   have:=(hb.cel.2 j u hu).1
   simpa using this⟩⟩
  clear hE hX hY hB hlx hly hxo hyo hxk hyk hg3 hE3 s1 s2 s3 s4 hx hy
  rcases hv with ⟨hv1,hv2⟩ | ⟨hv1,hv2⟩
  ·have q1:(v.k == 2)=false:=by rw [hv1];rfl
   obtain⟨m,hm⟩:∃ m,M row=m:=⟨_,rfl⟩
   have hm8:m.length=8:=by rw [← hm,hM];rfl
   have hmk:m.length=k:=by rw [hm8,hk8.out]
   have hS1:=HS.out
   rw [hm] at hbM
   have hS2:Hid (∀ w',Gr wc w'→Calls Tryz.prog 23 #[.agg m.toArray] w' fun e w''=>∃ cs,e=.returned (.agg cs.toArray)∧Gr w' w''∧ExF w'.heap.size w'' cs (redX (v.k+1) N D v.p x y)):=Lib.hid fun w' hg=>by
    have:=hS1 w' (some ⟨row,0,none⟩) 2 (hRd w' (hbR.gr hg))
    rw [← hm,hM]
    rwa [show v.k+1=2 by omega] at this ⊢
   have ld:=ldB hmk hbM
   replace hm:=Lib.hid hm
   replace hm8:=Lib.hid hm8
   clear hM hS1 HS hRd
   go_wp2_with (go_at_call 23;(with_reducible refine (hS2.out _ (Gr.refl _)).mono ?_);rintro e w4 ⟨rs,rfl,hg4,hx4⟩;have hB4:=hB3.gr hg4;have hrk:rs.length=k:=(by rw [hx4.r.len,hk8.out]);have st:=stB hB4 hx4.r.len hx4.r.one)
   have hb5:=blk_set hB4 rs
   have ld5:=ldB hrk hb5
   have hx5:=((hx4.less (b2:=w.heap.size+1+1+1+1) (by have:=hg03.size;have:=hB3.lt;omega)).setRow (k:=w.heap.size+1+1+1) (by omega) rs.toArray).less (b2:=w.heap.size) (by omega)
   have hg5:=gr_setRow (hg03.trans hg4) (g:=w.heap.size+1+1+1) (by omega) rs.toArray
   simp [bodyPost,results,Tryz.results9,go_sem,aE,zE,ld5]
   exact⟨hg5,hx5⟩
  ·have q1:(v.k == 2)=true:=by rw [hv1];rfl
   obtain⟨m,hm⟩:∃ m,exC 3 noTxE 0 N D v.p noTxE (.slice (some ⟨row,0,none⟩) 2 2)=m:=⟨_,rfl⟩
   have hm8:m.length=8:=by rw [← hm];rfl
   have hmk:m.length=k:=by rw [hm8,hk8.out]
   have hset:(M row).set 0 (.int .i64 3)=m:=by rw [← hm,hM];rfl
   have y2:=(hbM.cel.2 0 (.int .i64 2) (by rw [hM];rfl)).1
   have y3:=(hbM.cel.2 0 (.int .i64 2) (by rw [hM];rfl)).2
   have hbM2:=hbM.set 0 (.int .i64 3)
   rw [hset] at hbM2
   have hbR2:=blk_other hbR (p:=⟨g,0,none⟩) hne (.int .i64 3)
   have hB32:=blk_other hB3 (p:=⟨g,0,none⟩) (by show g≠_;omega) (.int .i64 3)
   have hg032:=hg03.setCell (p:=⟨g,0,none⟩) (by show w.heap.size≤g;omega) (.int .i64 3)
   have hS1:=HS.out
   have hS2:Hid (∀ w',Gr (wc.setCell ⟨g,0,none⟩ (.int .i64 3)) w'→Calls Tryz.prog 23 #[.agg m.toArray] w' fun e w''=>∃ cs,e=.returned (.agg cs.toArray)∧Gr w' w''∧ExF w'.heap.size w'' cs (redX (v.k+1) N D v.p x y)):=Lib.hid fun w' hg=>by
    have:=hS1 w' (some ⟨row,0,none⟩) 2 (hRd w' (hbR2.gr hg))
    rw [← hm]
    rwa [show v.k+1=3 by omega] at this ⊢
   replace hm:=Lib.hid hm
   replace hm8:=Lib.hid hm8
   clear hM hS1 HS hRd hset hbR hbM hB3 hg03
   go_upto_region 6 with fail
   generalize wc.setCell ⟨g,0,none⟩ (.int .i64 3)=W6 at *
   have ld:=ldB hmk hbM2
   have hb13:=hbM2.lt
   clear y0 y1 y2 y3 hb12
   go_wp2_with (go_at_call 23;(with_reducible refine (hS2.out _ (Gr.refl _)).mono ?_);rintro e w4 ⟨rs,rfl,hg4,hx4⟩;have hB4:=hB32.gr hg4;have hrk:rs.length=k:=(by rw [hx4.r.len,hk8.out]);have st:=stB hB4 hx4.r.len hx4.r.one)
   have hb5:=blk_set hB4 rs
   have ld5:=ldB hrk hb5
   have hx5:=((hx4.less (b2:=w.heap.size+1+1+1+1) (by have:=hg032.size;have:=hB32.lt;omega)).setRow (k:=w.heap.size+1+1+1) (by omega) rs.toArray).less (b2:=w.heap.size) (by omega)
   have hg5:=gr_setRow (hg032.trans hg4) (g:=w.heap.size+1+1+1) (by omega) rs.toArray
   simp [bodyPost,results,Tryz.results9,go_sem,aE,zE,ld5]
   exact⟨hg5,hx5⟩
end Go.Proofs.YtnginfangeikpaaGreatDoor
