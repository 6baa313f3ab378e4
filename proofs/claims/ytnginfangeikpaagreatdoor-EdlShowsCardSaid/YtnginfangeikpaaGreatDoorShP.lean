/-
  Contract of placeOf of package denote.
  Conditions: the source is black, or a reel at ordinary speed.
-/
import Derived.Test.YtnginfangeikpaaGreatDoorShL
import Derived.Test.YtnginfangeikpaaGreatDoorWalkUd
namespace Go.Proofs.YtnginfangeikpaaGreatDoor
open Go.RowKit Go.Lib
set_option linter.unusedSimpArgs false
set_option linter.unusedVariables false
def plcC (r:ByteArray) (i:Int):List Value:=if r.size=0 then [.int .i64 0,.string noTxE,.int .i64 0,.int .i64 0,.int .i64 0,.int .i64 0,.bool false,.int .i64 0,.int .i64 0,.int .i64 0]
 else [.int .i64 1,.string r,.int .i64 i,.int .i64 1,.int .i64 1,.int .i64 1,.bool false,.int .i64 1,.int .i64 i,.int .i64 1]
theorem plcC_len (r:ByteArray) (i:Int):(plcC r i).length=10:=by unfold plcC;split <;> rfl
theorem plcC_one (r:ByteArray) (i:Int):∀ v∈plcC r i,v.oneCell'=true:=by
 intro v hv
 unfold plcC at hv
 split at hv <;> simp only [List.mem_cons,List.not_mem_nil,or_false] at hv <;> rcases hv with rfl | rfl | rfl | rfl | rfl | rfl | rfl | rfl | rfl | rfl <;> rfl
set_option maxRecDepth 20000 in
set_option maxHeartbeats 4000000 in
theorem placeOf_src (k:Nat) (hk10:10=k) (r:ByteArray) (i:Int) (w:World) (hi:0≤i∧i≤1099511627776) (L:List Value) (hL:L=[.int .i64 1,.string r,.int .i64 i,.int .i64 1,.int .i64 1,.int .i64 1,.bool false,.int .i64 1,.int .i64 i,.int .i64 1]) :
  Calls Tryz.prog 72 #[.agg #[.int .i64 1,.string r,.int .i64 i,.int .i64 1,.int .i64 1,.int .i64 1,.bool false]] w fun e w'=>e=.returned (.agg L.toArray)∧Gr w w':=by
 have aE:∀ w,(isAgg 109).run Tryz.prog w=.ok true w:=Tryz.isAgg109
 have zE:∀ w,(Go.sizeOf 109).run Tryz.prog w=.ok k w:=fun w=>by rw [← hk10];exact Tryz.sizeOf109 w
 have hS:=(Blk.new w [.int .i64 1,.string r,.int .i64 i,.int .i64 1,.int .i64 1,.int .i64 1,.bool false] 59).gr ((Gr.refl _).alloc (.cells #[.int .i64 0,.string ⟨#[]⟩,.int .i64 0,.int .i64 0,.int .i64 0,.int .i64 0,.bool false,.int .i64 0,.int .i64 0,.int .i64 0] 109))
 have hP:=blkE_at (w:=w.alloc (.cells #[.int .i64 1,.string r,.int .i64 i,.int .i64 1,.int .i64 1,.int .i64 1,.bool false] 59)) (k:=w.heap.size+1) (by simp) [.int .i64 0,.string ⟨#[]⟩,.int .i64 0,.int .i64 0,.int .i64 0,.int .i64 0,.bool false,.int .i64 0,.int .i64 0,.int .i64 0] 109
 have hg0:Gr w ((w.alloc (.cells #[.int .i64 1,.string r,.int .i64 i,.int .i64 1,.int .i64 1,.int .i64 1,.bool false] 59)).alloc (.cells #[.int .i64 0,.string ⟨#[]⟩,.int .i64 0,.int .i64 0,.int .i64 0,.int .i64 0,.bool false,.int .i64 0,.int .i64 0,.int .i64 0] 109)):=((Gr.refl w).alloc _).alloc _
 go_enter Tryz.func72,Tryz.ntmps72
 go_upto_region 1 with fail
 generalize (w.alloc (.cells #[.int .i64 1,.string r,.int .i64 i,.int .i64 1,.int .i64 1,.int .i64 1,.bool false] 59)).alloc (.cells #[.int .i64 0,.string ⟨#[]⟩,.int .i64 0,.int .i64 0,.int .i64 0,.int .i64 0,.bool false,.int .i64 0,.int .i64 0,.int .i64 0] 109)=W at *
 have wO:IntKind.i64.wrap 1=1:=by decide
 have z0:=hS.lt
 have z1:=(hS.cel.2 0 _ rfl).1
 go_upto_region 3 with fail
 clear z0 z1
 refine wp_region_still (Keep 6 (fun x=>Blk x w.heap.size 59 [.int .i64 1,.string r,.int .i64 i,.int .i64 1,.int .i64 1,.int .i64 1,.bool false])) 8 rfl (by as_aux_lemma=>kernel_rfl) ?_
 show stillAny _ _ _ _ _ _ #[false,false,false,false,false,false,false,false] _ _
 have hS1:=hS.gr ((Gr.refl W).drew)
 have hP1:=hP.gr ((Gr.refl W).drew)
 have hg1:=hg0.trans ((Gr.refl W).drew)
 generalize W.drew=w1 at *
 clear hS hP hg0
 refine still_pure 0 (v:=.pointer (some ⟨w.heap.size,2,none⟩)) rfl (by as_aux_lemma=>kernel_rfl) (by as_aux_lemma=>kernel_rfl) (by as_aux_lemma=>kernel_rfl) (fun _=>hS1) rfl (fun w hw=>?_) ?_
 ·(try replace hw:=hw (by decide))
  (try have hq0:=hw.lt)
  (try have hq1:=(hw.cel.2 3 _ rfl).1)
  (try have hq2:=(hw.cel.2 5 _ rfl).1)
  (try simp at hq0 hq1 hq2)
  first | (simp [execOp,go_sem,hq0,hq1,hq2];done) | (simp [execOp,go_sem];done)
 simp only [Act.put,zG,zH,zK,zI,zS,zZ]
 refine still_pure 1 (v:=.pointer (some ⟨w.heap.size,3,none⟩)) rfl (by as_aux_lemma=>kernel_rfl) (by as_aux_lemma=>kernel_rfl) (by as_aux_lemma=>kernel_rfl) (fun _=>hS1) rfl (fun w hw=>?_) ?_
 ·(try replace hw:=hw (by decide))
  (try have hq0:=hw.lt)
  (try have hq1:=(hw.cel.2 3 _ rfl).1)
  (try have hq2:=(hw.cel.2 5 _ rfl).1)
  (try simp at hq0 hq1 hq2)
  first | (simp [execOp,go_sem,hq0,hq1,hq2];done) | (simp [execOp,go_sem];done)
 simp only [Act.put,zG,zH,zK,zI,zS,zZ]
 refine still_pure 2 (v:=.int .i64 1) rfl (by as_aux_lemma=>kernel_rfl) (by as_aux_lemma=>kernel_rfl) (by as_aux_lemma=>kernel_rfl) (fun _=>hS1) rfl (fun w hw=>?_) ?_
 ·(try replace hw:=hw (by decide))
  (try have hq0:=hw.lt)
  (try have hq1:=(hw.cel.2 3 _ rfl).1)
  (try have hq2:=(hw.cel.2 5 _ rfl).1)
  (try simp at hq0 hq1 hq2)
  first | (simp [execOp,go_sem,hq0,hq1,hq2];done) | (simp [execOp,go_sem];done)
 simp only [Act.put,zG,zH,zK,zI,zS,zZ]
 refine still_pure 3 (v:=.pointer (some ⟨w.heap.size,4,none⟩)) rfl (by as_aux_lemma=>kernel_rfl) (by as_aux_lemma=>kernel_rfl) (by as_aux_lemma=>kernel_rfl) (fun _=>hS1) rfl (fun w hw=>?_) ?_
 ·(try replace hw:=hw (by decide))
  (try have hq0:=hw.lt)
  (try have hq1:=(hw.cel.2 3 _ rfl).1)
  (try have hq2:=(hw.cel.2 5 _ rfl).1)
  (try simp at hq0 hq1 hq2)
  first | (simp [execOp,go_sem,hq0,hq1,hq2];done) | (simp [execOp,go_sem];done)
 simp only [Act.put,zG,zH,zK,zI,zS,zZ]
 refine still_pure 4 (v:=.pointer (some ⟨w.heap.size,5,none⟩)) rfl (by as_aux_lemma=>kernel_rfl) (by as_aux_lemma=>kernel_rfl) (by as_aux_lemma=>kernel_rfl) (fun _=>hS1) rfl (fun w hw=>?_) ?_
 ·(try replace hw:=hw (by decide))
  (try have hq0:=hw.lt)
  (try have hq1:=(hw.cel.2 3 _ rfl).1)
  (try have hq2:=(hw.cel.2 5 _ rfl).1)
  (try simp at hq0 hq1 hq2)
  first | (simp [execOp,go_sem,hq0,hq1,hq2];done) | (simp [execOp,go_sem];done)
 simp only [Act.put,zG,zH,zK,zI,zS,zZ]
 refine still_pure 5 (v:=.int .i64 1) rfl (by as_aux_lemma=>kernel_rfl) (by as_aux_lemma=>kernel_rfl) (by as_aux_lemma=>kernel_rfl) (fun _=>hS1) rfl (fun w hw=>?_) ?_
 ·(try replace hw:=hw (by decide))
  (try have hq0:=hw.lt)
  (try have hq1:=(hw.cel.2 3 _ rfl).1)
  (try have hq2:=(hw.cel.2 5 _ rfl).1)
  (try simp at hq0 hq1 hq2)
  first | (simp [execOp,go_sem,hq0,hq1,hq2];done) | (simp [execOp,go_sem];done)
 simp only [Act.put,zG,zH,zK,zI,zS,zZ]
 refine still_next (j:=6) (by as_aux_lemma=>kernel_rfl) (by rfl) (fun R hR=>?_)
 (try simp only [zG,zH,zK])
 go_wp2_with fail
 refine only_normal (hR _ _ (Keep.step (fun h=>h)) ?_)
 clear hR R
 simp only [Act.put,zI,zS,zZ]
 refine still_next (j:=7) (by as_aux_lemma=>kernel_rfl) (by rfl) (fun R hR=>?_)
 (try simp only [zG,zH,zK])
 go_wp2_with fail
 refine only_normal (hR _ _ (Keep.last (by as_aux_lemma=>kernel_rfl)) ?_)
 clear hR R
 simp only [Act.put,zI,zS,zZ]
 refine still_done (by as_aux_lemma=>kernel_rfl) ?_
 (try simp only [zG,zH,zK,zI,zS,zZ])
 go_wp2
 go_loopw [3,4] (fun a b wr=>Gr w1 wr∧a=.int .i64 1∧(b=.int .i64 1∨b=.int .i64 0)) (fun _ b _=>(RowKit.intOf b).toNat)
 case atStart=>exact⟨Gr.refl _,rfl,.inl rfl⟩
 case round=>
  obtain⟨hg2,rfl,hb | hb⟩:=hrel
  ·subst hb
   go_upto_region 5 with fail
   refine wp_region_still (Keep 4 (fun _=>True)) 6 rfl (by as_aux_lemma=>kernel_rfl) ?_
   show stillAny _ _ _ _ _ _ #[false,false,false,false,false,false] _ _
   refine still_pure 0 (v:=.int .i64 1) rfl (by as_aux_lemma=>kernel_rfl) (by as_aux_lemma=>kernel_rfl) (by as_aux_lemma=>kernel_rfl) (fun _=>trivial) rfl (fun w hw=>?_) ?_
   ·simp [execOp,go_sem]
   simp only [Act.put,zG,zH,zK,zI,zS,zZ]
   refine still_pure 1 (v:=.int .i64 1) rfl (by as_aux_lemma=>kernel_rfl) (by as_aux_lemma=>kernel_rfl) (by as_aux_lemma=>kernel_rfl) (fun _=>trivial) rfl (fun w hw=>?_) ?_
   ·simp [execOp,go_sem]
   simp only [Act.put,zG,zH,zK,zI,zS,zZ]
   refine still_pure 2 (v:=.int .i64 1) rfl (by as_aux_lemma=>kernel_rfl) (by as_aux_lemma=>kernel_rfl) (by as_aux_lemma=>kernel_rfl) (fun _=>trivial) rfl (fun w hw=>?_) ?_
   ·simp [execOp,go_sem]
   simp only [Act.put,zG,zH,zK,zI,zS,zZ]
   refine still_pure 3 (v:=.int .i64 0) rfl (by as_aux_lemma=>kernel_rfl) (by as_aux_lemma=>kernel_rfl) (by as_aux_lemma=>kernel_rfl) (fun _=>trivial) rfl (fun w hw=>?_) ?_
   ·simp [execOp,go_sem]
   simp only [Act.put,zG,zH,zK,zI,zS,zZ]
   refine still_next (j:=4) (by as_aux_lemma=>kernel_rfl) (by rfl) (fun R hR=>?_)
   (try simp only [zG,zH,zK])
   go_wp2_with fail
   refine only_normal (hR _ _ (Keep.step (fun h=>h)) ?_)
   clear hR R
   simp only [Act.put,zI,zS,zZ]
   refine still_next (j:=5) (by as_aux_lemma=>kernel_rfl) (by rfl) (fun R hR=>?_)
   (try simp only [zG,zH,zK])
   go_wp2_with fail
   refine only_normal (hR _ _ (Keep.last (by as_aux_lemma=>kernel_rfl)) ?_)
   clear hR R
   simp only [Act.put,zI,zS,zZ]
   refine still_done (by as_aux_lemma=>kernel_rfl) ?_
   (try simp only [zG,zH,zK,zI,zS,zZ])
   go_wp2
   exact⟨⟨hg2.trans ((Gr.refl _).drew),rfl,.inr rfl⟩,by simp [RowKit.intOf]⟩
  ·subst hb
   go_upto_region 6 with fail
   have hS2:=hS1.gr (hg2.trans ((Gr.refl wr).drew))
   have hP2:=hP1.gr (hg2.trans ((Gr.refl wr).drew))
   have hgB:=hg1.trans (hg2.trans ((Gr.refl wr).drew))
   refine wp_region_still (Keep 9 (fun x=>Blk x w.heap.size 59 [.int .i64 1,.string r,.int .i64 i,.int .i64 1,.int .i64 1,.int .i64 1,.bool false])) 10 rfl (by as_aux_lemma=>kernel_rfl) ?_
   show stillAny _ _ _ _ _ _ #[false,false,false,false,false,false,false,false,false,false] _ _
   generalize wr.drew=w2 at *
   refine still_pure 0 (v:=.pointer (some ⟨w.heap.size,2,none⟩)) rfl (by as_aux_lemma=>kernel_rfl) (by as_aux_lemma=>kernel_rfl) (by as_aux_lemma=>kernel_rfl) (fun _=>hS2) rfl (fun w hw=>?_) ?_
   ·(try replace hw:=hw (by decide))
    (try have hq0:=hw.lt)
    (try have hq1:=(hw.cel.2 3 _ rfl).1)
    (try have hq2:=(hw.cel.2 5 _ rfl).1)
    (try simp at hq0 hq1 hq2)
    first | (simp [execOp,go_sem,hq0,hq1,hq2];done) | (simp [execOp,go_sem];done)
   simp only [Act.put,zG,zH,zK,zI,zS,zZ]
   refine still_pure 1 (v:=.pointer (some ⟨w.heap.size,3,none⟩)) rfl (by as_aux_lemma=>kernel_rfl) (by as_aux_lemma=>kernel_rfl) (by as_aux_lemma=>kernel_rfl) (fun _=>hS2) rfl (fun w hw=>?_) ?_
   ·(try replace hw:=hw (by decide))
    (try have hq0:=hw.lt)
    (try have hq1:=(hw.cel.2 3 _ rfl).1)
    (try have hq2:=(hw.cel.2 5 _ rfl).1)
    (try simp at hq0 hq1 hq2)
    first | (simp [execOp,go_sem,hq0,hq1,hq2];done) | (simp [execOp,go_sem];done)
   simp only [Act.put,zG,zH,zK,zI,zS,zZ]
   refine still_pure 2 (v:=.int .i64 1) rfl (by as_aux_lemma=>kernel_rfl) (by as_aux_lemma=>kernel_rfl) (by as_aux_lemma=>kernel_rfl) (fun _=>hS2) rfl (fun w hw=>?_) ?_
   ·(try replace hw:=hw (by decide))
    (try have hq0:=hw.lt)
    (try have hq1:=(hw.cel.2 3 _ rfl).1)
    (try have hq2:=(hw.cel.2 5 _ rfl).1)
    (try simp at hq0 hq1 hq2)
    first | (simp [execOp,go_sem,hq0,hq1,hq2];done) | (simp [execOp,go_sem];done)
   simp only [Act.put,zG,zH,zK,zI,zS,zZ]
   refine still_pure 3 (v:=.int .i64 1) rfl (by as_aux_lemma=>kernel_rfl) (by as_aux_lemma=>kernel_rfl) (by as_aux_lemma=>kernel_rfl) (fun _=>hS2) rfl (fun w hw=>?_) ?_
   ·(try replace hw:=hw (by decide))
    (try have hq0:=hw.lt)
    (try have hq1:=(hw.cel.2 3 _ rfl).1)
    (try have hq2:=(hw.cel.2 5 _ rfl).1)
    (try simp at hq0 hq1 hq2)
    first | (simp [execOp,go_sem,hq0,hq1,hq2];done) | (simp [execOp,go_sem];done)
   simp only [Act.put,zG,zH,zK,zI,zS,zZ]
   refine still_pure 4 (v:=.int .i64 1) rfl (by as_aux_lemma=>kernel_rfl) (by as_aux_lemma=>kernel_rfl) (by as_aux_lemma=>kernel_rfl) (fun _=>hS2) rfl (fun w hw=>?_) ?_
   ·(try replace hw:=hw (by decide))
    (try have hq0:=hw.lt)
    (try have hq1:=(hw.cel.2 3 _ rfl).1)
    (try have hq2:=(hw.cel.2 5 _ rfl).1)
    (try simp at hq0 hq1 hq2)
    first | (simp [execOp,go_sem,hq0,hq1,hq2,wO];done) | (simp [execOp,go_sem,wO];done)
   simp only [Act.put,zG,zH,zK,zI,zS,zZ]
   refine still_pure 5 (v:=.pointer (some ⟨w.heap.size,4,none⟩)) rfl (by as_aux_lemma=>kernel_rfl) (by as_aux_lemma=>kernel_rfl) (by as_aux_lemma=>kernel_rfl) (fun _=>hS2) rfl (fun w hw=>?_) ?_
   ·(try replace hw:=hw (by decide))
    (try have hq0:=hw.lt)
    (try have hq1:=(hw.cel.2 3 _ rfl).1)
    (try have hq2:=(hw.cel.2 5 _ rfl).1)
    (try simp at hq0 hq1 hq2)
    first | (simp [execOp,go_sem,hq0,hq1,hq2];done) | (simp [execOp,go_sem];done)
   simp only [Act.put,zG,zH,zK,zI,zS,zZ]
   refine still_pure 6 (v:=.pointer (some ⟨w.heap.size,5,none⟩)) rfl (by as_aux_lemma=>kernel_rfl) (by as_aux_lemma=>kernel_rfl) (by as_aux_lemma=>kernel_rfl) (fun _=>hS2) rfl (fun w hw=>?_) ?_
   ·(try replace hw:=hw (by decide))
    (try have hq0:=hw.lt)
    (try have hq1:=(hw.cel.2 3 _ rfl).1)
    (try have hq2:=(hw.cel.2 5 _ rfl).1)
    (try simp at hq0 hq1 hq2)
    first | (simp [execOp,go_sem,hq0,hq1,hq2];done) | (simp [execOp,go_sem];done)
   simp only [Act.put,zG,zH,zK,zI,zS,zZ]
   refine still_pure 7 (v:=.int .i64 1) rfl (by as_aux_lemma=>kernel_rfl) (by as_aux_lemma=>kernel_rfl) (by as_aux_lemma=>kernel_rfl) (fun _=>hS2) rfl (fun w hw=>?_) ?_
   ·(try replace hw:=hw (by decide))
    (try have hq0:=hw.lt)
    (try have hq1:=(hw.cel.2 3 _ rfl).1)
    (try have hq2:=(hw.cel.2 5 _ rfl).1)
    (try simp at hq0 hq1 hq2)
    first | (simp [execOp,go_sem,hq0,hq1,hq2];done) | (simp [execOp,go_sem];done)
   simp only [Act.put,zG,zH,zK,zI,zS,zZ]
   refine still_pure 8 (v:=.int .i64 1) rfl (by as_aux_lemma=>kernel_rfl) (by as_aux_lemma=>kernel_rfl) (by as_aux_lemma=>kernel_rfl) (fun _=>hS2) rfl (fun w hw=>?_) ?_
   ·(try replace hw:=hw (by decide))
    (try have hq0:=hw.lt)
    (try have hq1:=(hw.cel.2 3 _ rfl).1)
    (try have hq2:=(hw.cel.2 5 _ rfl).1)
    (try simp at hq0 hq1 hq2)
    first | (simp [execOp,go_sem,hq0,hq1,hq2,wO];done) | (simp [execOp,go_sem,wO];done)
   simp only [Act.put,zG,zH,zK,zI,zS,zZ]
   refine still_next (j:=9) (by as_aux_lemma=>kernel_rfl) (by rfl) (fun R hR=>?_)
   (try simp only [zG,zH,zK])
   go_wp2_with fail
   refine only_normal (hR _ _ (Keep.last (by as_aux_lemma=>kernel_rfl)) ?_)
   clear hR R
   simp only [Act.put,zI,zS,zZ]
   refine still_done (by as_aux_lemma=>kernel_rfl) ?_
   (try simp only [zG,zH,zK,zI,zS,zZ])
   go_upto_region 7 with fail
   have hS3:=hS2.gr ((Gr.refl w2).drew)
   have hP3:=hP2.gr ((Gr.refl w2).drew)
   have hgC:=hgB.trans ((Gr.refl w2).drew)
   refine wp_region_still (Keep 20 (fun x=>Blk x w.heap.size 59 [.int .i64 1,.string r,.int .i64 i,.int .i64 1,.int .i64 1,.int .i64 1,.bool false])) 22 rfl (by as_aux_lemma=>kernel_rfl) ?_
   show stillAny _ _ _ _ _ _ #[false,false,false,false,false,false,false,false,false,false,false,false,false,false,false,false,false,false,false,false,false,false] _ _
   generalize w2.drew=w3 at *
   have wI:IntKind.i64.wrap i=i:=by rw [IntKind.wrap_i64];omega
   refine still_pure 0 (v:=.agg #[.int .i64 1,.string r,.int .i64 i,.int .i64 1,.int .i64 1,.int .i64 1,.bool false]) rfl (by as_aux_lemma=>kernel_rfl) (by as_aux_lemma=>kernel_rfl) (by as_aux_lemma=>kernel_rfl) (fun _=>hS3) rfl (fun w hw=>?_) ?_
   ·have hw2:=hw (by decide)
    exact exec_ldE Tryz.isAgg59 Tryz.sizeOf59 (by decide) (.tmp 1) rfl _ 0 rfl (ldB rfl hw2) hw2.lt
   simp only [Act.put,zG,zH,zK,zI,zS,zZ]
   refine still_pure 1 (v:=.int .i64 1) rfl (by as_aux_lemma=>kernel_rfl) (by as_aux_lemma=>kernel_rfl) (by as_aux_lemma=>kernel_rfl) (fun _=>hS3) rfl (fun w hw=>?_) ?_
   ·(try replace hw:=hw (by decide))
    (try have hq0:=hw.lt)
    (try have hq1:=(hw.cel.2 2 _ rfl).1)
    (try have hq2:=(hw.cel.2 3 _ rfl).1)
    (try have hq3:=(hw.cel.2 4 _ rfl).1)
    (try have hq4:=(hw.cel.2 5 _ rfl).1)
    (try simp at hq0 hq1 hq2 hq3 hq4)
    first | (simp [execOp,go_sem,hq0,hq1,hq2,hq3,hq4];done) | (simp [execOp,go_sem];done)
   simp only [Act.put,zG,zH,zK,zI,zS,zZ]
   refine still_pure 2 (v:=.pointer (some ⟨w.heap.size,2,none⟩)) rfl (by as_aux_lemma=>kernel_rfl) (by as_aux_lemma=>kernel_rfl) (by as_aux_lemma=>kernel_rfl) (fun _=>hS3) rfl (fun w hw=>?_) ?_
   ·(try replace hw:=hw (by decide))
    (try have hq0:=hw.lt)
    (try have hq1:=(hw.cel.2 2 _ rfl).1)
    (try have hq2:=(hw.cel.2 3 _ rfl).1)
    (try have hq3:=(hw.cel.2 4 _ rfl).1)
    (try have hq4:=(hw.cel.2 5 _ rfl).1)
    (try simp at hq0 hq1 hq2 hq3 hq4)
    first | (simp [execOp,go_sem,hq0,hq1,hq2,hq3,hq4];done) | (simp [execOp,go_sem];done)
   simp only [Act.put,zG,zH,zK,zI,zS,zZ]
   refine still_pure 3 (v:=.pointer (some ⟨w.heap.size,2,none⟩)) rfl (by as_aux_lemma=>kernel_rfl) (by as_aux_lemma=>kernel_rfl) (by as_aux_lemma=>kernel_rfl) (fun _=>hS3) rfl (fun w hw=>?_) ?_
   ·(try replace hw:=hw (by decide))
    (try have hq0:=hw.lt)
    (try have hq1:=(hw.cel.2 2 _ rfl).1)
    (try have hq2:=(hw.cel.2 3 _ rfl).1)
    (try have hq3:=(hw.cel.2 4 _ rfl).1)
    (try have hq4:=(hw.cel.2 5 _ rfl).1)
    (try simp at hq0 hq1 hq2 hq3 hq4)
    first | (simp [execOp,go_sem,hq0,hq1,hq2,hq3,hq4];done) | (simp [execOp,go_sem];done)
   simp only [Act.put,zG,zH,zK,zI,zS,zZ]
   refine still_pure 4 (v:=.int .i64 i) rfl (by as_aux_lemma=>kernel_rfl) (by as_aux_lemma=>kernel_rfl) (by as_aux_lemma=>kernel_rfl) (fun _=>hS3) rfl (fun w hw=>?_) ?_
   ·(try replace hw:=hw (by decide))
    (try have hq0:=hw.lt)
    (try have hq1:=(hw.cel.2 2 _ rfl).1)
    (try have hq2:=(hw.cel.2 3 _ rfl).1)
    (try have hq3:=(hw.cel.2 4 _ rfl).1)
    (try have hq4:=(hw.cel.2 5 _ rfl).1)
    (try simp at hq0 hq1 hq2 hq3 hq4)
    first | (simp [execOp,go_sem,hq0,hq1,hq2,hq3,hq4];done) | (simp [execOp,go_sem];done)
   simp only [Act.put,zG,zH,zK,zI,zS,zZ]
   refine still_pure 5 (v:=.int .i64 1) rfl (by as_aux_lemma=>kernel_rfl) (by as_aux_lemma=>kernel_rfl) (by as_aux_lemma=>kernel_rfl) (fun _=>hS3) rfl (fun w hw=>?_) ?_
   ·(try replace hw:=hw (by decide))
    (try have hq0:=hw.lt)
    (try have hq1:=(hw.cel.2 2 _ rfl).1)
    (try have hq2:=(hw.cel.2 3 _ rfl).1)
    (try have hq3:=(hw.cel.2 4 _ rfl).1)
    (try have hq4:=(hw.cel.2 5 _ rfl).1)
    (try simp at hq0 hq1 hq2 hq3 hq4)
    first | (simp [execOp,go_sem,hq0,hq1,hq2,hq3,hq4];done) | (simp [execOp,go_sem];done)
   simp only [Act.put,zG,zH,zK,zI,zS,zZ]
   refine still_pure 6 (v:=.pointer (some ⟨w.heap.size,2,none⟩)) rfl (by as_aux_lemma=>kernel_rfl) (by as_aux_lemma=>kernel_rfl) (by as_aux_lemma=>kernel_rfl) (fun _=>hS3) rfl (fun w hw=>?_) ?_
   ·(try replace hw:=hw (by decide))
    (try have hq0:=hw.lt)
    (try have hq1:=(hw.cel.2 2 _ rfl).1)
    (try have hq2:=(hw.cel.2 3 _ rfl).1)
    (try have hq3:=(hw.cel.2 4 _ rfl).1)
    (try have hq4:=(hw.cel.2 5 _ rfl).1)
    (try simp at hq0 hq1 hq2 hq3 hq4)
    first | (simp [execOp,go_sem,hq0,hq1,hq2,hq3,hq4];done) | (simp [execOp,go_sem];done)
   simp only [Act.put,zG,zH,zK,zI,zS,zZ]
   refine still_pure 7 (v:=.pointer (some ⟨w.heap.size,3,none⟩)) rfl (by as_aux_lemma=>kernel_rfl) (by as_aux_lemma=>kernel_rfl) (by as_aux_lemma=>kernel_rfl) (fun _=>hS3) rfl (fun w hw=>?_) ?_
   ·(try replace hw:=hw (by decide))
    (try have hq0:=hw.lt)
    (try have hq1:=(hw.cel.2 2 _ rfl).1)
    (try have hq2:=(hw.cel.2 3 _ rfl).1)
    (try have hq3:=(hw.cel.2 4 _ rfl).1)
    (try have hq4:=(hw.cel.2 5 _ rfl).1)
    (try simp at hq0 hq1 hq2 hq3 hq4)
    first | (simp [execOp,go_sem,hq0,hq1,hq2,hq3,hq4];done) | (simp [execOp,go_sem];done)
   simp only [Act.put,zG,zH,zK,zI,zS,zZ]
   refine still_pure 8 (v:=.int .i64 1) rfl (by as_aux_lemma=>kernel_rfl) (by as_aux_lemma=>kernel_rfl) (by as_aux_lemma=>kernel_rfl) (fun _=>hS3) rfl (fun w hw=>?_) ?_
   ·(try replace hw:=hw (by decide))
    (try have hq0:=hw.lt)
    (try have hq1:=(hw.cel.2 2 _ rfl).1)
    (try have hq2:=(hw.cel.2 3 _ rfl).1)
    (try have hq3:=(hw.cel.2 4 _ rfl).1)
    (try have hq4:=(hw.cel.2 5 _ rfl).1)
    (try simp at hq0 hq1 hq2 hq3 hq4)
    first | (simp [execOp,go_sem,hq0,hq1,hq2,hq3,hq4];done) | (simp [execOp,go_sem];done)
   simp only [Act.put,zG,zH,zK,zI,zS,zZ]
   refine still_pure 9 (v:=.int .i64 1) rfl (by as_aux_lemma=>kernel_rfl) (by as_aux_lemma=>kernel_rfl) (by as_aux_lemma=>kernel_rfl) (fun _=>hS3) rfl (fun w hw=>?_) ?_
   ·(try replace hw:=hw (by decide))
    (try have hq0:=hw.lt)
    (try have hq1:=(hw.cel.2 2 _ rfl).1)
    (try have hq2:=(hw.cel.2 3 _ rfl).1)
    (try have hq3:=(hw.cel.2 4 _ rfl).1)
    (try have hq4:=(hw.cel.2 5 _ rfl).1)
    (try simp at hq0 hq1 hq2 hq3 hq4)
    first | (simp [execOp,go_sem,hq0,hq1,hq2,hq3,hq4,wO];done) | (simp [execOp,go_sem,wO];done)
   simp only [Act.put,zG,zH,zK,zI,zS,zZ]
   refine still_pure 10 (v:=.int .i64 i) rfl (by as_aux_lemma=>kernel_rfl) (by as_aux_lemma=>kernel_rfl) (by as_aux_lemma=>kernel_rfl) (fun _=>hS3) rfl (fun w hw=>?_) ?_
   ·(try replace hw:=hw (by decide))
    (try have hq0:=hw.lt)
    (try have hq1:=(hw.cel.2 2 _ rfl).1)
    (try have hq2:=(hw.cel.2 3 _ rfl).1)
    (try have hq3:=(hw.cel.2 4 _ rfl).1)
    (try have hq4:=(hw.cel.2 5 _ rfl).1)
    (try simp at hq0 hq1 hq2 hq3 hq4)
    first | (simp [execOp,go_sem,hq0,hq1,hq2,hq3,hq4,wI];done) | (simp [execOp,go_sem,wI];done)
   simp only [Act.put,zG,zH,zK,zI,zS,zZ]
   refine still_pure 11 (v:=.pointer (some ⟨w.heap.size,4,none⟩)) rfl (by as_aux_lemma=>kernel_rfl) (by as_aux_lemma=>kernel_rfl) (by as_aux_lemma=>kernel_rfl) (fun _=>hS3) rfl (fun w hw=>?_) ?_
   ·(try replace hw:=hw (by decide))
    (try have hq0:=hw.lt)
    (try have hq1:=(hw.cel.2 2 _ rfl).1)
    (try have hq2:=(hw.cel.2 3 _ rfl).1)
    (try have hq3:=(hw.cel.2 4 _ rfl).1)
    (try have hq4:=(hw.cel.2 5 _ rfl).1)
    (try simp at hq0 hq1 hq2 hq3 hq4)
    first | (simp [execOp,go_sem,hq0,hq1,hq2,hq3,hq4];done) | (simp [execOp,go_sem];done)
   simp only [Act.put,zG,zH,zK,zI,zS,zZ]
   refine still_pure 12 (v:=.pointer (some ⟨w.heap.size,4,none⟩)) rfl (by as_aux_lemma=>kernel_rfl) (by as_aux_lemma=>kernel_rfl) (by as_aux_lemma=>kernel_rfl) (fun _=>hS3) rfl (fun w hw=>?_) ?_
   ·(try replace hw:=hw (by decide))
    (try have hq0:=hw.lt)
    (try have hq1:=(hw.cel.2 2 _ rfl).1)
    (try have hq2:=(hw.cel.2 3 _ rfl).1)
    (try have hq3:=(hw.cel.2 4 _ rfl).1)
    (try have hq4:=(hw.cel.2 5 _ rfl).1)
    (try simp at hq0 hq1 hq2 hq3 hq4)
    first | (simp [execOp,go_sem,hq0,hq1,hq2,hq3,hq4];done) | (simp [execOp,go_sem];done)
   simp only [Act.put,zG,zH,zK,zI,zS,zZ]
   refine still_pure 13 (v:=.int .i64 1) rfl (by as_aux_lemma=>kernel_rfl) (by as_aux_lemma=>kernel_rfl) (by as_aux_lemma=>kernel_rfl) (fun _=>hS3) rfl (fun w hw=>?_) ?_
   ·(try replace hw:=hw (by decide))
    (try have hq0:=hw.lt)
    (try have hq1:=(hw.cel.2 2 _ rfl).1)
    (try have hq2:=(hw.cel.2 3 _ rfl).1)
    (try have hq3:=(hw.cel.2 4 _ rfl).1)
    (try have hq4:=(hw.cel.2 5 _ rfl).1)
    (try simp at hq0 hq1 hq2 hq3 hq4)
    first | (simp [execOp,go_sem,hq0,hq1,hq2,hq3,hq4];done) | (simp [execOp,go_sem];done)
   simp only [Act.put,zG,zH,zK,zI,zS,zZ]
   refine still_pure 14 (v:=.int .i64 1) rfl (by as_aux_lemma=>kernel_rfl) (by as_aux_lemma=>kernel_rfl) (by as_aux_lemma=>kernel_rfl) (fun _=>hS3) rfl (fun w hw=>?_) ?_
   ·(try replace hw:=hw (by decide))
    (try have hq0:=hw.lt)
    (try have hq1:=(hw.cel.2 2 _ rfl).1)
    (try have hq2:=(hw.cel.2 3 _ rfl).1)
    (try have hq3:=(hw.cel.2 4 _ rfl).1)
    (try have hq4:=(hw.cel.2 5 _ rfl).1)
    (try simp at hq0 hq1 hq2 hq3 hq4)
    first | (simp [execOp,go_sem,hq0,hq1,hq2,hq3,hq4];done) | (simp [execOp,go_sem];done)
   simp only [Act.put,zG,zH,zK,zI,zS,zZ]
   refine still_pure 15 (v:=.pointer (some ⟨w.heap.size,4,none⟩)) rfl (by as_aux_lemma=>kernel_rfl) (by as_aux_lemma=>kernel_rfl) (by as_aux_lemma=>kernel_rfl) (fun _=>hS3) rfl (fun w hw=>?_) ?_
   ·(try replace hw:=hw (by decide))
    (try have hq0:=hw.lt)
    (try have hq1:=(hw.cel.2 2 _ rfl).1)
    (try have hq2:=(hw.cel.2 3 _ rfl).1)
    (try have hq3:=(hw.cel.2 4 _ rfl).1)
    (try have hq4:=(hw.cel.2 5 _ rfl).1)
    (try simp at hq0 hq1 hq2 hq3 hq4)
    first | (simp [execOp,go_sem,hq0,hq1,hq2,hq3,hq4];done) | (simp [execOp,go_sem];done)
   simp only [Act.put,zG,zH,zK,zI,zS,zZ]
   refine still_pure 16 (v:=.pointer (some ⟨w.heap.size,5,none⟩)) rfl (by as_aux_lemma=>kernel_rfl) (by as_aux_lemma=>kernel_rfl) (by as_aux_lemma=>kernel_rfl) (fun _=>hS3) rfl (fun w hw=>?_) ?_
   ·(try replace hw:=hw (by decide))
    (try have hq0:=hw.lt)
    (try have hq1:=(hw.cel.2 2 _ rfl).1)
    (try have hq2:=(hw.cel.2 3 _ rfl).1)
    (try have hq3:=(hw.cel.2 4 _ rfl).1)
    (try have hq4:=(hw.cel.2 5 _ rfl).1)
    (try simp at hq0 hq1 hq2 hq3 hq4)
    first | (simp [execOp,go_sem,hq0,hq1,hq2,hq3,hq4];done) | (simp [execOp,go_sem];done)
   simp only [Act.put,zG,zH,zK,zI,zS,zZ]
   refine still_pure 17 (v:=.int .i64 1) rfl (by as_aux_lemma=>kernel_rfl) (by as_aux_lemma=>kernel_rfl) (by as_aux_lemma=>kernel_rfl) (fun _=>hS3) rfl (fun w hw=>?_) ?_
   ·(try replace hw:=hw (by decide))
    (try have hq0:=hw.lt)
    (try have hq1:=(hw.cel.2 2 _ rfl).1)
    (try have hq2:=(hw.cel.2 3 _ rfl).1)
    (try have hq3:=(hw.cel.2 4 _ rfl).1)
    (try have hq4:=(hw.cel.2 5 _ rfl).1)
    (try simp at hq0 hq1 hq2 hq3 hq4)
    first | (simp [execOp,go_sem,hq0,hq1,hq2,hq3,hq4];done) | (simp [execOp,go_sem];done)
   simp only [Act.put,zG,zH,zK,zI,zS,zZ]
   refine still_pure 18 (v:=.int .i64 1) rfl (by as_aux_lemma=>kernel_rfl) (by as_aux_lemma=>kernel_rfl) (by as_aux_lemma=>kernel_rfl) (fun _=>hS3) rfl (fun w hw=>?_) ?_
   ·(try replace hw:=hw (by decide))
    (try have hq0:=hw.lt)
    (try have hq1:=(hw.cel.2 2 _ rfl).1)
    (try have hq2:=(hw.cel.2 3 _ rfl).1)
    (try have hq3:=(hw.cel.2 4 _ rfl).1)
    (try have hq4:=(hw.cel.2 5 _ rfl).1)
    (try simp at hq0 hq1 hq2 hq3 hq4)
    first | (simp [execOp,go_sem,hq0,hq1,hq2,hq3,hq4,wO];done) | (simp [execOp,go_sem,wO];done)
   simp only [Act.put,zG,zH,zK,zI,zS,zZ]
   refine still_pure 19 (v:=.int .i64 1) rfl (by as_aux_lemma=>kernel_rfl) (by as_aux_lemma=>kernel_rfl) (by as_aux_lemma=>kernel_rfl) (fun _=>hS3) rfl (fun w hw=>?_) ?_
   ·(try replace hw:=hw (by decide))
    (try have hq0:=hw.lt)
    (try have hq1:=(hw.cel.2 2 _ rfl).1)
    (try have hq2:=(hw.cel.2 3 _ rfl).1)
    (try have hq3:=(hw.cel.2 4 _ rfl).1)
    (try have hq4:=(hw.cel.2 5 _ rfl).1)
    (try simp at hq0 hq1 hq2 hq3 hq4)
    first | (simp [execOp,go_sem,hq0,hq1,hq2,hq3,hq4,wO];done) | (simp [execOp,go_sem,wO];done)
   simp only [Act.put,zG,zH,zK,zI,zS,zZ]
   refine still_pure 20 (v:=.agg L.toArray) rfl (by as_aux_lemma=>kernel_rfl) (by as_aux_lemma=>kernel_rfl) (by as_aux_lemma=>kernel_rfl) (fun _=>hS3) rfl (fun w hw=>?_) ?_
   ·exact exec_buildE (t:=109) (parts:=#[(0,.tmp 31),(1,.tmp 32),(2,.tmp 41),(3,.tmp 50)]) rfl (by rw [hL];kernel_rfl) w
   simp only [Act.put,zG,zH,zK,zI,zS,zZ]
   have hl10:L.length=10:=by rw [hL];rfl
   have hLo:∀ v∈L,v.oneCell'=true:=by
    rw [hL]
    intro v hv
    simp only [List.mem_cons,List.not_mem_nil,or_false] at hv
    rcases hv with rfl | rfl | rfl | rfl | rfl | rfl | rfl | rfl | rfl | rfl <;> rfl
   have hLk:L.length=k:=by rw [hl10,hk10]
   have st:=stB hP3 (l:=L) (by rw [hl10];rfl) hLo
   have hlt:=hP3.lt
   have hb4:=blk_set hP3 L
   have ld4:=ldB hLk hb4
   have hg4:=gr_setRow hgC (g:=w.heap.size+1) (by omega) L.toArray
   replace hl10:=Lib.hid hl10
   replace hk10:=Lib.hid hk10
   replace hL:=Lib.hid hL
   refine still_next (j:=21) (by as_aux_lemma=>kernel_rfl) (by rfl) (fun R hR=>?_)
   (try simp only [zG,zH,zK])
   go_wp2_with fail
   refine only_normal (hR _ _ (Keep.last (by as_aux_lemma=>kernel_rfl)) ?_)
   clear hR R
   simp only [Act.put,zI,zS,zZ]
   refine still_done (by as_aux_lemma=>kernel_rfl) ?_
   (try simp only [zG,zH,zK,zI,zS,zZ])
   go_wp2
   simp [bodyPost,results,Tryz.results72,go_sem,aE,zE,ld4]
   exact hg4
set_option maxRecDepth 20000 in
set_option maxHeartbeats 4000000 in
theorem placeOf_blk (k:Nat) (hk10:10=k) (w:World) (L:List Value) (hL:L=[.int .i64 0,.string noTxE,.int .i64 0,.int .i64 0,.int .i64 0,.int .i64 0,.bool false,.int .i64 0,.int .i64 0,.int .i64 0]) :
  Calls Tryz.prog 72 #[.agg #[.int .i64 0,.string ⟨#[]⟩,.int .i64 0,.int .i64 0,.int .i64 0,.int .i64 0,.bool false]] w fun e w'=>e=.returned (.agg L.toArray)∧Gr w w':=by
 have aE:∀ w,(isAgg 109).run Tryz.prog w=.ok true w:=Tryz.isAgg109
 have zE:∀ w,(Go.sizeOf 109).run Tryz.prog w=.ok k w:=fun w=>by rw [← hk10];exact Tryz.sizeOf109 w
 have hS:=(Blk.new w [.int .i64 0,.string ⟨#[]⟩,.int .i64 0,.int .i64 0,.int .i64 0,.int .i64 0,.bool false] 59).gr ((Gr.refl _).alloc (.cells #[.int .i64 0,.string ⟨#[]⟩,.int .i64 0,.int .i64 0,.int .i64 0,.int .i64 0,.bool false,.int .i64 0,.int .i64 0,.int .i64 0] 109))
 have hP:=blkE_at (w:=w.alloc (.cells #[.int .i64 0,.string ⟨#[]⟩,.int .i64 0,.int .i64 0,.int .i64 0,.int .i64 0,.bool false] 59)) (k:=w.heap.size+1) (by simp) [.int .i64 0,.string ⟨#[]⟩,.int .i64 0,.int .i64 0,.int .i64 0,.int .i64 0,.bool false,.int .i64 0,.int .i64 0,.int .i64 0] 109
 have hg0:Gr w ((w.alloc (.cells #[.int .i64 0,.string ⟨#[]⟩,.int .i64 0,.int .i64 0,.int .i64 0,.int .i64 0,.bool false] 59)).alloc (.cells #[.int .i64 0,.string ⟨#[]⟩,.int .i64 0,.int .i64 0,.int .i64 0,.int .i64 0,.bool false,.int .i64 0,.int .i64 0,.int .i64 0] 109)):=((Gr.refl w).alloc _).alloc _
 go_enter Tryz.func72,Tryz.ntmps72
 go_upto_region 1 with fail
 generalize (w.alloc (.cells #[.int .i64 0,.string ⟨#[]⟩,.int .i64 0,.int .i64 0,.int .i64 0,.int .i64 0,.bool false] 59)).alloc (.cells #[.int .i64 0,.string ⟨#[]⟩,.int .i64 0,.int .i64 0,.int .i64 0,.int .i64 0,.bool false,.int .i64 0,.int .i64 0,.int .i64 0] 109)=W at *
 have z0:=hS.lt
 have z1:=(hS.cel.2 0 _ rfl).1
 have hl10:L.length=10:=by rw [hL];rfl
 have hLo:∀ v∈L,v.oneCell'=true:=by
  rw [hL]
  intro v hv
  simp only [List.mem_cons,List.not_mem_nil,or_false] at hv
  rcases hv with rfl | rfl | rfl | rfl | rfl | rfl | rfl | rfl | rfl | rfl <;> rfl
 have hLk:L.length=k:=by rw [hl10,hk10]
 have st:=stB hP (l:=L) (by rw [hl10];rfl) hLo
 have hlt:=hP.lt
 have hb4:=blk_set hP L
 have ld4:=ldB hLk hb4
 have hg4:=gr_setRow hg0 (g:=w.heap.size+1) (by omega) L.toArray
 replace hl10:=Lib.hid hl10
 replace hk10:=Lib.hid hk10
 replace hL:=Lib.hid hL
 go_wp2_with (refine wpList_buildTo rfl 109 #[] rfl (some 9) rfl L.toArray (by rw [hL.out];kernel_rfl) ?_)
 simp [bodyPost,results,Tryz.results72,go_sem,aE,zE,ld4]
 exact hg4
theorem placeOf_any (r:ByteArray) (i:Int) (w:World) (hi:0≤i∧i≤1099511627776) :
  Calls Tryz.prog 72 #[(plS r i).val] w fun e w'=>e=.returned (.agg (plcC r i).toArray)∧Gr w w':=by
 unfold plS plcC
 by_cases h:r.size=0
 ·rw [if_pos h,if_pos h]
  exact placeOf_blk 10 rfl w _ rfl
 ·rw [if_neg h,if_neg h]
  exact placeOf_src 10 rfl r i w hi _ rfl
end Go.Proofs.YtnginfangeikpaaGreatDoor
