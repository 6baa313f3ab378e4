/-
  Contract of (index).clip of package denote.
  Conditions: the clip is a cut, a mix or a wipe of reels; the frame is one of the clip's.
-/
import Derived.Test.YtnginfangeikpaaGreatDoorShF
import Derived.Test.YtnginfangeikpaaGreatDoorWalkF
import Derived.Test.YtnginfangeikpaaGreatDoorClip
namespace Go.Proofs.YtnginfangeikpaaGreatDoor
open Go.RowKit Go.Lib
set_option linter.unusedSimpArgs false
set_option linter.unusedVariables false
theorem ldP {w:World} {b k:Nat} {T:TypeId} {pa pb:List Value} (hk:pa.length=k) (hk2:pb.length=k) (h:Blk w b T (pa ++ pb)) :
  Sem.run Tryz.prog (loadCellsFrom ⟨b,0,none⟩ 0 k #[]) w=.ok pa.toArray w∧Sem.run Tryz.prog (loadCellsFrom ⟨b,k,none⟩ 0 k #[]) w=.ok pb.toArray w:=by
 refine⟨ldE (q:=0) hk fun j u hu=>?_,ldE (q:=k) hk2 fun j u hu=>?_⟩
 ·have:=(h.cel.2 j u (by rw [List.getElem?_append_left (List.getElem?_eq_some_iff.1 hu).1];exact hu)).1
  simpa using this
 ·have:=(h.cel.2 (k+j) u (by rw [List.getElem?_append_right (by omega),hk,Nat.add_sub_cancel_left];exact hu)).1
  simpa using this
set_option maxRecDepth 20000 in
set_option maxHeartbeats 8000000 in
theorem clip_cut (k kp:Nat) (hk8:8=k) (hkp:10=kp) (v1 v2:Value) (hv1:v1.oneCell'=true) (hv2:v2.oneCell'=true) (mc pa pb lx:List Value) (p q:Int) (w:World) (hm1:mc[1]?=some (.int .i64 1)) (hm18:mc[18]?=some (.int .i64 p))
  (hpa:pa.length=10) (hpb:pb.length=10) (hlx:lx.length=8) (hlo:∀ v∈lx,v.oneCell'=true)
  (HP:Hid (∀ w',Gr w w'→Calls Tryz.prog 73 #[.agg #[v1,v2],.agg pa.toArray,.int .i64 q] w' fun e w''=>e=.returned (.agg lx.toArray)∧Gr w' w'')) :
  Calls Tryz.prog 43 #[.agg #[v1,v2],.agg mc.toArray,.agg (pa ++ pb).toArray,.int .i64 q] w fun e w'=>e=.returned (.agg lx.toArray)∧Gr w w':=by
 have aE:∀ w,(isAgg 41).run Tryz.prog w=.ok true w:=Tryz.isAgg41
 have zE:∀ w,(Go.sizeOf 41).run Tryz.prog w=.ok k w:=fun w=>by rw [← hk8];exact Tryz.sizeOf41 w
 have aP:∀ w,(isAgg 109).run Tryz.prog w=.ok true w:=Tryz.isAgg109
 have zP:∀ w,(Go.sizeOf 109).run Tryz.prog w=.ok kp w:=fun w=>by rw [← hkp];exact Tryz.sizeOf109 w
 have hpk:pa.length=kp:=by rw [hpa,hkp]
 have hpk2:pb.length=kp:=by rw [hpb,hkp]
 have hlk:lx.length=k:=by rw [hlx,hk8]
 have hI:=(((Blk.new w [v1,v2] 79).gr ((Gr.refl _).alloc (.cells mc.toArray 61))).gr ((Gr.refl _).alloc (.cells (pa ++ pb).toArray 110))).gr ((Gr.refl _).alloc (.cells zeroEx.toArray 41))
 have hM:=((blkE_at (w:=w.alloc (.cells #[v1,v2] 79)) (k:=w.heap.size+1) (by simp) mc 61).gr ((Gr.refl _).alloc (.cells (pa ++ pb).toArray 110))).gr ((Gr.refl _).alloc (.cells zeroEx.toArray 41))
 have hA:=(blkE_at (w:=(w.alloc (.cells #[v1,v2] 79)).alloc (.cells mc.toArray 61)) (k:=w.heap.size+1+1) (by simp) (pa ++ pb) 110).gr ((Gr.refl _).alloc (.cells zeroEx.toArray 41))
 have hB:=blkE_at (w:=((w.alloc (.cells #[v1,v2] 79)).alloc (.cells mc.toArray 61)).alloc (.cells (pa ++ pb).toArray 110)) (k:=w.heap.size+1+1+1) (by simp) zeroEx 41
 have hW:((((w.alloc (.cells #[v1,v2] 79)).alloc (.cells mc.toArray 61)).alloc (.cells (pa ++ pb).toArray 110)).alloc (.cells zeroEx.toArray 41)).heap.size=w.heap.size+1+1+1+1:=by simp
 have hg0:Gr w ((((w.alloc (.cells #[v1,v2] 79)).alloc (.cells mc.toArray 61)).alloc (.cells (pa ++ pb).toArray 110)).alloc (.cells zeroEx.toArray 41)):=((((Gr.refl w).alloc _).alloc _).alloc _).alloc _
 replace hk8:=Lib.hid hk8
 replace hkp:=Lib.hid hkp
 replace hlx:=Lib.hid hlx
 replace hpa:=Lib.hid hpa
 replace hpb:=Lib.hid hpb
 unfold zeroEx at *
 obtain⟨E0,hE0⟩:∃ l,exC 0 noTxE 0 0 0 p noTxE nilE=l:=⟨_,rfl⟩
 have hE8:E0.length=8:=by rw [← hE0];rfl
 have hEo:∀ v∈E0,v.oneCell'=true:=by rw [← hE0];exact exC_one _ _ _ _ _ _ _ _ _ _
 replace hE0:=Lib.hid hE0
 go_enter Tryz.func43,Tryz.ntmps43
 go_upto_region 1 with fail
 generalize (((w.alloc (.cells #[v1,v2] 79)).alloc (.cells mc.toArray 61)).alloc (.cells (pa ++ pb).toArray 110)).alloc (.cells #[.int .i64 0,.string ⟨#[]⟩,.int .i64 0,.int .i64 0,.int .i64 0,.int .i64 0,.string ⟨#[]⟩,.slice none 0 0] 41)=W at *
 have z0:=hM.lt
 have z1:=(hM.cel.2 18 _ hm18).1
 have st0:=stE W E0 hE8 hEo
 have hEk:E0.length=k:=by rw [hE8,hk8.out]
 have hbE:=blkE_at hW E0 41
 have gE:=(Gr.refl W).alloc (.cells E0.toArray 41)
 rw [hW] at st0
 replace hE8:=Lib.hid hE8
 go_upto_region 2 with (refine wpList_buildTo rfl 41 #[(5,.tmp 13)] rfl (some 14) rfl E0.toArray (by rw [← hE0.out];kernel_rfl) ?_)
 have hM1:=hM.gr gE
 have hI1:=hI.gr gE
 have hA1:=hA.gr gE
 have hB1:=hB.gr gE
 have hg1:=hg0.trans gE
 clear hM hI hA hB hg0 gE z0 z1 st0
 generalize W.alloc (.cells E0.toArray 41)=W1 at *
 have z0:=hM1.lt
 have z1:=(hM1.cel.2 1 _ hm1).1
 have y0:=hI1.lt
 have y1:=(hI1.cel.2 0 _ rfl).1
 have y2:=(hI1.cel.2 1 _ rfl).1
 have x0:=hA1.lt
 have x1:=(ldP hpk hpk2 hA1).1
 go_wp2_with (go_at_call 73;(with_reducible refine (HP.out _ hg1).mono ?_);rintro e w2 ⟨rfl,hg2⟩;have hB2:=hB1.gr hg2;have st:=stB hB2 (by rw [hlx.out];rfl) hlo)
 have hb3:=blk_set hB2 lx
 have ld3:=ldB hlk hb3
 have hg3:=gr_setRow (hg1.trans hg2) (g:=w.heap.size+1+1+1) (by omega) lx.toArray
 simp [bodyPost,results,Tryz.results43,go_sem,aE,zE,ld3]
 exact hg3
set_option maxRecDepth 20000 in
set_option maxHeartbeats 8000000 in
theorem clip_two2 (k kp:Nat) (hk8:8=k) (hkp:10=kp) (v1 v2:Value) (hv1:v1.oneCell'=true) (hv2:v2.oneCell'=true) (mc pa pb:List Value) (x y:Lf) (p q off tot N D E:Int) (w:World) (hm1:mc[1]?=some (.int .i64 2)) (hm16:mc[16]?=some (.int .i64 off)) (hm17:mc[17]?=some (.int .i64 tot)) (hm18:mc[18]?=some (.int .i64 p))
  (hpa:pa.length=10) (hpb:pb.length=10) (ho:0≤off∧off≤2147483647) (hq:0≤q∧q≤2147483647) (ht:0≤tot∧tot≤2147483647)
  (HO:Hid (∀ w',Calls Tryz.prog 74 #[.int .i64 (off+q+1),.int .i64 (tot+1)] w' fun e w''=>e=.returned (.tuple #[.agg #[.int .i64 N,.int .i64 D],.int .i64 E])∧Gr w' w''))
  (HP:Hid (∀ w',Gr w w'→Calls Tryz.prog 73 #[.agg #[v1,v2],.agg pa.toArray,.int .i64 q] w' fun e w''=>e=.returned (.agg (lfC x nilE).toArray)∧Gr w' w''))
  (HP2:Hid (∀ w',Gr w w'→Calls Tryz.prog 73 #[.agg #[v1,v2],.agg pb.toArray,.int .i64 q] w' fun e w''=>e=.returned (.agg (lfC y nilE).toArray)∧Gr w' w'')) :
  Calls Tryz.prog 43 #[.agg #[v1,v2],.agg mc.toArray,.agg (pa ++ pb).toArray,.int .i64 q] w fun e w'=>∃ cs,e=.returned (.agg cs.toArray)∧Gr w w'∧ExF w.heap.size w' cs (redX 2 N D p x y):=by
 obtain⟨lx,hlx0⟩:∃ l,lfC x nilE=l:=⟨_,rfl⟩
 obtain⟨ly,hly0⟩:∃ l,lfC y nilE=l:=⟨_,rfl⟩
 have hlx:lx.length=8:=by rw [← hlx0];rfl
 have hly:ly.length=8:=by rw [← hly0];rfl
 have hlo:∀ v∈lx,v.oneCell'=true:=by rw [← hlx0];exact exC_one _ _ _ _ _ _ _ _ _ _
 obtain⟨M,hMd⟩:∃ M:Nat→List Value,M=fun row=>exC 2 noTxE 0 N D p noTxE (.slice (some ⟨row,0,none⟩) 2 2):=⟨_,rfl⟩
 have HR:Hid (∀ w' row,Rd w' (.slice (some ⟨row,0,none⟩) 2 2) 2 8 (lx ++ ly)→Calls Tryz.prog 75 #[.agg (M row).toArray] w' fun e w''=>∃ rs,e=.returned (.agg rs.toArray)∧Gr w' w''∧rs.length=8∧(∀ v∈rs,v.oneCell'=true)∧(w.heap.size+1+1+1+1≤row→ExF (w.heap.size+1+1+1+1) w'' rs (redX 2 N D p x y))):=Lib.hid fun w' row h=>by
  rw [← hlx0,← hly0] at h
  rw [hMd]
  refine (reduced_mx 2 N D p x y (some ⟨row,0,none⟩) 2 nilE nilE w' (by omega) rfl rfl h).mono ?_
  rintro e w'' ⟨rfl,hg⟩
  refine⟨_,rfl,hg,?_,?_,fun hb=>red_exF hb rfl rfl (h.gr hg)⟩
  ·split <;> rfl
  ·split
   ·exact exC_one _ _ _ _ _ _ _ _ _ _
   ·exact exC_one _ _ _ _ _ _ _ _ _ _
 rw [hlx0] at HP
 rw [hly0] at HP2
 clear hlx0 hly0
 have aE:∀ w,(isAgg 41).run Tryz.prog w=.ok true w:=Tryz.isAgg41
 have zE:∀ w,(Go.sizeOf 41).run Tryz.prog w=.ok k w:=fun w=>by rw [← hk8];exact Tryz.sizeOf41 w
 have aP:∀ w,(isAgg 109).run Tryz.prog w=.ok true w:=Tryz.isAgg109
 have zP:∀ w,(Go.sizeOf 109).run Tryz.prog w=.ok kp w:=fun w=>by rw [← hkp];exact Tryz.sizeOf109 w
 have hpk:pa.length=kp:=by rw [hpa,hkp]
 have hpk2:pb.length=kp:=by rw [hpb,hkp]
 have hlk:lx.length=k:=by rw [hlx,hk8]
 have hI:=(((Blk.new w [v1,v2] 79).gr ((Gr.refl _).alloc (.cells mc.toArray 61))).gr ((Gr.refl _).alloc (.cells (pa ++ pb).toArray 110))).gr ((Gr.refl _).alloc (.cells zeroEx.toArray 41))
 have hM:=((blkE_at (w:=w.alloc (.cells #[v1,v2] 79)) (k:=w.heap.size+1) (by simp) mc 61).gr ((Gr.refl _).alloc (.cells (pa ++ pb).toArray 110))).gr ((Gr.refl _).alloc (.cells zeroEx.toArray 41))
 have hA:=(blkE_at (w:=(w.alloc (.cells #[v1,v2] 79)).alloc (.cells mc.toArray 61)) (k:=w.heap.size+1+1) (by simp) (pa ++ pb) 110).gr ((Gr.refl _).alloc (.cells zeroEx.toArray 41))
 have hB:=blkE_at (w:=((w.alloc (.cells #[v1,v2] 79)).alloc (.cells mc.toArray 61)).alloc (.cells (pa ++ pb).toArray 110)) (k:=w.heap.size+1+1+1) (by simp) zeroEx 41
 have hW:((((w.alloc (.cells #[v1,v2] 79)).alloc (.cells mc.toArray 61)).alloc (.cells (pa ++ pb).toArray 110)).alloc (.cells zeroEx.toArray 41)).heap.size=w.heap.size+1+1+1+1:=by simp
 have hg0:Gr w ((((w.alloc (.cells #[v1,v2] 79)).alloc (.cells mc.toArray 61)).alloc (.cells (pa ++ pb).toArray 110)).alloc (.cells zeroEx.toArray 41)):=((((Gr.refl w).alloc _).alloc _).alloc _).alloc _
 replace hk8:=Lib.hid hk8
 replace hkp:=Lib.hid hkp
 have hlyk:ly.length=k:=by rw [hly,hk8.out]
 replace hlx:=Lib.hid hlx
 replace hly:=Lib.hid hly
 obtain⟨E1,hE1⟩:∃ l,exC 2 noTxE 0 N D p noTxE nilE=l:=⟨_,rfl⟩
 replace hpa:=Lib.hid hpa
 replace hpb:=Lib.hid hpb
 unfold zeroEx at *
 obtain⟨E0,hE0⟩:∃ l,exC 0 noTxE 0 0 0 p noTxE nilE=l:=⟨_,rfl⟩
 have hE8:E0.length=8:=by rw [← hE0];rfl
 have hEo:∀ v∈E0,v.oneCell'=true:=by rw [← hE0];exact exC_one _ _ _ _ _ _ _ _ _ _
 replace hE0:=Lib.hid hE0
 go_enter Tryz.func43,Tryz.ntmps43
 go_upto_region 1 with fail
 generalize (((w.alloc (.cells #[v1,v2] 79)).alloc (.cells mc.toArray 61)).alloc (.cells (pa ++ pb).toArray 110)).alloc (.cells #[.int .i64 0,.string ⟨#[]⟩,.int .i64 0,.int .i64 0,.int .i64 0,.int .i64 0,.string ⟨#[]⟩,.slice none 0 0] 41)=W at *
 have z0:=hM.lt
 have z1:=(hM.cel.2 18 _ hm18).1
 have st0:=stE W E0 hE8 hEo
 have hEk:E0.length=k:=by rw [hE8,hk8.out]
 have hbE:=blkE_at hW E0 41
 have gE:=(Gr.refl W).alloc (.cells E0.toArray 41)
 rw [hW] at st0
 replace hE8:=Lib.hid hE8
 go_upto_region 2 with (refine wpList_buildTo rfl 41 #[(5,.tmp 13)] rfl (some 14) rfl E0.toArray (by rw [← hE0.out];kernel_rfl) ?_)
 have hM1:=hM.gr gE
 have hI1:=hI.gr gE
 have hA1:=hA.gr gE
 have hB1:=hB.gr gE
 have hg1:=hg0.trans gE
 have hWs:(W.alloc (.cells E0.toArray 41)).heap.size=w.heap.size+1+1+1+1+1:=by rw [World.size_alloc,hW]
 clear hM hI hA hB hg0 gE z0 z1 st0 hW hEk hEo
 generalize W.alloc (.cells E0.toArray 41)=W1 at *
 rw [← hE0.out] at hbE
 clear W hE8
 have z0:=hM1.lt
 have z1:=(hM1.cel.2 1 _ hm1).1
 have y0:=hbE.lt
 have y1:=(hbE.cel.2 0 _ rfl).1
 have y2:=(hbE.cel.2 0 _ rfl).2
 have hE2:=hbE.set 0 (.int .i64 2)
 have hM2:=blk_other hM1 (p:=⟨w.heap.size+1+1+1+1,0,none⟩) (by show w.heap.size+1+1+1+1≠_;omega) (.int .i64 2)
 have hI2:=blk_other hI1 (p:=⟨w.heap.size+1+1+1+1,0,none⟩) (by show w.heap.size+1+1+1+1≠_;omega) (.int .i64 2)
 have hA2:=blk_other hA1 (p:=⟨w.heap.size+1+1+1+1,0,none⟩) (by show w.heap.size+1+1+1+1≠_;omega) (.int .i64 2)
 have hB2:=blk_other hB1 (p:=⟨w.heap.size+1+1+1+1,0,none⟩) (by show w.heap.size+1+1+1+1≠_;omega) (.int .i64 2)
 have hg2:Gr w (W1.setCell ⟨w.heap.size+1+1+1+1,0,none⟩ (.int .i64 2)):=hg1.setCell (by show w.heap.size≤w.heap.size+1+1+1+1;omega) _
 clear hM1 hI1 hA1 hB1 hg1 hbE
 go_upto_region 13 with fail
 have hWs2:(W1.setCell ⟨w.heap.size+1+1+1+1,0,none⟩ (.int .i64 2)).heap.size=w.heap.size+1+1+1+1+1:=by simp [hWs]
 clear z0 z1 y0 y1 y2 hWs
 generalize W1.setCell ⟨w.heap.size+1+1+1+1,0,none⟩ (.int .i64 2)=W2 at *
 clear W1
 have z0:=hM2.lt
 have z1:=(hM2.cel.2 1 _ hm1).1
 have z2:=(hM2.cel.2 16 _ hm16).1
 have z3:=(hM2.cel.2 17 _ hm17).1
 go_upto_region 15 with (go_at_call 74;(with_reducible refine (HO.out _).mono ?_);rintro e w3 ⟨rfl,hg3⟩)
 clear z0 z1 z2 z3
 have hSh:=Blk.new w3 [.int .i64 N,.int .i64 D] 57
 have gA:=hg3.alloc (.cells #[.int .i64 N,.int .i64 D] 57)
 have gD:=gA.trans ((Gr.refl _).drew)
 have hs3:w.heap.size+1+1+1+1+1≤w3.heap.size:=by have:=hg3.size;omega
 have hSd:=hSh.gr ((Gr.refl _).drew)
 have hM3:=hM2.gr gD
 have hI3:=hI2.gr gD
 have hA3:=hA2.gr gD
 have hB3:=hB2.gr gD
 have hE3:=hE2.gr gD
 have hgd:=hg2.trans gD
 clear hM2 hI2 hA2 hB2 hE2 hg2 gD gA hSh hg3 hWs2 W2
 refine wp_region_still (Keep 4 (fun x=>Blk x w3.heap.size 57 [.int .i64 N,.int .i64 D])) 8 rfl (by as_aux_lemma=>kernel_rfl) ?_
 show stillAny _ _ _ _ _ _ #[false,false,false,false,false,false,false,false] _ _
 generalize (w3.alloc (.cells #[.int .i64 N,.int .i64 D] 57)).drew=wd at *
 generalize w3.heap.size=s at *
 clear w3
 refine still_pure 0 (v:=.pointer (some ⟨s,0,none⟩)) rfl (by as_aux_lemma=>kernel_rfl) (by as_aux_lemma=>kernel_rfl) (by as_aux_lemma=>kernel_rfl) (fun _=>hSd) rfl (fun w hw=>?_) ?_
 ·(try replace hw:=hw (by decide))
  (try have hq0:=hw.lt)
  (try have hq1:=(hw.cel.2 0 _ rfl).1)
  (try have hq2:=(hw.cel.2 1 _ rfl).1)
  (try simp at hq0 hq1 hq2)
  first | (simp [execOp,go_sem,hq0,hq1,hq2];done) | (simp [execOp,go_sem];done)
 simp only [Act.put,zG,zH,zK,zI,zS,zZ]
 refine still_pure 1 (v:=.int .i64 N) rfl (by as_aux_lemma=>kernel_rfl) (by as_aux_lemma=>kernel_rfl) (by as_aux_lemma=>kernel_rfl) (fun _=>hSd) rfl (fun w hw=>?_) ?_
 ·(try replace hw:=hw (by decide))
  (try have hq0:=hw.lt)
  (try have hq1:=(hw.cel.2 0 _ rfl).1)
  (try have hq2:=(hw.cel.2 1 _ rfl).1)
  (try simp at hq0 hq1 hq2)
  first | (simp [execOp,go_sem,hq0,hq1,hq2];done) | (simp [execOp,go_sem];done)
 simp only [Act.put,zG,zH,zK,zI,zS,zZ]
 refine still_pure 2 (v:=.pointer (some ⟨s,1,none⟩)) rfl (by as_aux_lemma=>kernel_rfl) (by as_aux_lemma=>kernel_rfl) (by as_aux_lemma=>kernel_rfl) (fun _=>hSd) rfl (fun w hw=>?_) ?_
 ·(try replace hw:=hw (by decide))
  (try have hq0:=hw.lt)
  (try have hq1:=(hw.cel.2 0 _ rfl).1)
  (try have hq2:=(hw.cel.2 1 _ rfl).1)
  (try simp at hq0 hq1 hq2)
  first | (simp [execOp,go_sem,hq0,hq1,hq2];done) | (simp [execOp,go_sem];done)
 simp only [Act.put,zG,zH,zK,zI,zS,zZ]
 refine still_pure 3 (v:=.int .i64 D) rfl (by as_aux_lemma=>kernel_rfl) (by as_aux_lemma=>kernel_rfl) (by as_aux_lemma=>kernel_rfl) (fun _=>hSd) rfl (fun w hw=>?_) ?_
 ·(try replace hw:=hw (by decide))
  (try have hq0:=hw.lt)
  (try have hq1:=(hw.cel.2 0 _ rfl).1)
  (try have hq2:=(hw.cel.2 1 _ rfl).1)
  (try simp at hq0 hq1 hq2)
  first | (simp [execOp,go_sem,hq0,hq1,hq2];done) | (simp [execOp,go_sem];done)
 simp only [Act.put,zG,zH,zK,zI,zS,zZ]
 refine still_pure 4 (v:=.pointer (some ⟨w.heap.size+1+1+1+1,3,none⟩)) rfl (by as_aux_lemma=>kernel_rfl) (by as_aux_lemma=>kernel_rfl) (by as_aux_lemma=>kernel_rfl) (fun _=>hSd) rfl (fun w hw=>?_) ?_
 ·(try replace hw:=hw (by decide))
  (try have hq0:=hw.lt)
  (try have hq1:=(hw.cel.2 0 _ rfl).1)
  (try have hq2:=(hw.cel.2 1 _ rfl).1)
  (try simp at hq0 hq1 hq2)
  first | (simp [execOp,go_sem,hq0,hq1,hq2];done) | (simp [execOp,go_sem];done)
 simp only [Act.put,zG,zH,zK,zI,zS,zZ]
 have y0:=hE3.lt
 have y1:=(hE3.cel.2 3 _ rfl).1
 have y2:=(hE3.cel.2 3 _ rfl).2
 have hE4:=hE3.set 3 (.int .i64 N)
 have hM4:=blk_other hM3 (p:=⟨w.heap.size+1+1+1+1,3,none⟩) (by show w.heap.size+1+1+1+1≠_;omega) (.int .i64 N)
 have hI4:=blk_other hI3 (p:=⟨w.heap.size+1+1+1+1,3,none⟩) (by show w.heap.size+1+1+1+1≠_;omega) (.int .i64 N)
 have hA4:=blk_other hA3 (p:=⟨w.heap.size+1+1+1+1,3,none⟩) (by show w.heap.size+1+1+1+1≠_;omega) (.int .i64 N)
 have hB4:=blk_other hB3 (p:=⟨w.heap.size+1+1+1+1,3,none⟩) (by show w.heap.size+1+1+1+1≠_;omega) (.int .i64 N)
 have hg4:Gr w (wd.setCell ⟨w.heap.size+1+1+1+1,3,none⟩ (.int .i64 N)):=hgd.setCell (by show w.heap.size≤w.heap.size+1+1+1+1;omega) _
 have hSd4:=blk_other hSd (p:=⟨w.heap.size+1+1+1+1,3,none⟩) (by show w.heap.size+1+1+1+1≠_;omega) (.int .i64 N)
 refine still_next (j:=5) (by as_aux_lemma=>kernel_rfl) (by rfl) (fun R hR=>?_)
 (try simp only [zG,zH,zK])
 go_wp2_with fail
 refine only_normal (hR _ _ (Keep.step (fun h=>blk_other h (by show w.heap.size+1+1+1+1≠_;omega) _)) ?_)
 clear hR R
 simp only [Act.put,zI,zS,zZ]
 clear hM3 hI3 hA3 hB3 hE3 hgd hSd y0 y1 y2
 generalize wd.setCell ⟨w.heap.size+1+1+1+1,3,none⟩ (.int .i64 N)=we at *
 clear wd
 refine still_pure 6 (v:=.pointer (some ⟨w.heap.size+1+1+1+1,4,none⟩)) rfl (by as_aux_lemma=>kernel_rfl) (by as_aux_lemma=>kernel_rfl) (by as_aux_lemma=>kernel_rfl) (fun _=>hSd4) rfl (fun w hw=>?_) ?_
 ·(try replace hw:=hw (by decide))
  (try have hq0:=hw.lt)
  (try have hq1:=(hw.cel.2 0 _ rfl).1)
  (try have hq2:=(hw.cel.2 1 _ rfl).1)
  (try simp at hq0 hq1 hq2)
  first | (simp [execOp,go_sem,hq0,hq1,hq2];done) | (simp [execOp,go_sem];done)
 simp only [Act.put,zG,zH,zK,zI,zS,zZ]
 have y0:=hE4.lt
 have y1:=(hE4.cel.2 4 _ rfl).1
 have y2:=(hE4.cel.2 4 _ rfl).2
 have hE5:=hE4.set 4 (.int .i64 D)
 have hM5:=blk_other hM4 (p:=⟨w.heap.size+1+1+1+1,4,none⟩) (by show w.heap.size+1+1+1+1≠_;omega) (.int .i64 D)
 have hI5:=blk_other hI4 (p:=⟨w.heap.size+1+1+1+1,4,none⟩) (by show w.heap.size+1+1+1+1≠_;omega) (.int .i64 D)
 have hA5:=blk_other hA4 (p:=⟨w.heap.size+1+1+1+1,4,none⟩) (by show w.heap.size+1+1+1+1≠_;omega) (.int .i64 D)
 have hB5:=blk_other hB4 (p:=⟨w.heap.size+1+1+1+1,4,none⟩) (by show w.heap.size+1+1+1+1≠_;omega) (.int .i64 D)
 have hg5:Gr w (we.setCell ⟨w.heap.size+1+1+1+1,4,none⟩ (.int .i64 D)):=hg4.setCell (by show w.heap.size≤w.heap.size+1+1+1+1;omega) _
 refine still_next (j:=7) (by as_aux_lemma=>kernel_rfl) (by rfl) (fun R hR=>?_)
 (try simp only [zG,zH,zK])
 go_wp2_with fail
 refine only_normal (hR _ _ (Keep.last (by as_aux_lemma=>kernel_rfl)) ?_)
 clear hR R
 simp only [Act.put,zI,zS,zZ]
 refine still_done (by as_aux_lemma=>kernel_rfl) ?_
 (try simp only [zG,zH,zK,zI,zS,zZ])
 clear hM4 hI4 hA4 hB4 hE4 hg4 hSd4 y0 y1 y2
 generalize we.setCell ⟨w.heap.size+1+1+1+1,4,none⟩ (.int .i64 D)=wf at *
 clear we
 go_upto_region 16 with fail
 have z0:=hI5.lt
 have z1:=(hI5.cel.2 0 _ rfl).1
 have z2:=(hI5.cel.2 1 _ rfl).1
 have z3:=hA5.lt
 have lp1:∀ w',Gr wf w'→Sem.run Tryz.prog (loadCellsFrom ⟨w.heap.size+1+1,0,none⟩ 0 kp #[]) w'=.ok pa.toArray w':=fun w' hg=>(ldP hpk hpk2 (hA5.gr hg)).1
 have lp2:∀ w',Gr wf w'→Sem.run Tryz.prog (loadCellsFrom ⟨w.heap.size+1+1,kp,none⟩ 0 kp #[]) w'=.ok pb.toArray w':=fun w' hg=>(ldP hpk hpk2 (hA5.gr hg)).2
 refine wp_region_gr_tail 10 (by as_aux_lemma=>kernel_rfl) (by as_aux_lemma=>kernel_rfl) (fun hq1 hq2=>?_)
 simp only [List.take_succ_cons,List.take_zero,List.drop_succ_cons,List.drop_zero]
 repeat (first | go_big_quiet_skip | (go_big_quiet_want;go_big_quiet_op;first | go_big_quiet_on | (apply Exists.intro;refine⟨fun _=>?_,?_⟩;(· (first | (go_at_call 73;with_reducible exact gr_call (HP.out _ (hg5.trans (GW.h _)))) | (go_at_call 73;with_reducible exact gr_call (HP2.out _ (hg5.trans (GW.h _)))) | (rw [lp1 _ (GW.h _)];exact⟨rfl,rfl⟩) | (rw [lp2 _ (GW.h _)];exact⟨rfl,rfl⟩)));go_big_quiet_on)))
 refine wpQuiet_nil ?_
 clear hq1 hq2
 rintro w1 ⟨⟨_,hg1⟩,rfl⟩
 obtain⟨hc1,hf1⟩:=hg1.cells
 have hz1:=hg1.size
 (try simp at hz1);(try have hl1_0_0:w.heap.size<w1.heap.size:=by omega);(try have hm1_0_0:w.heap.size≤w1.heap.size:=by omega);(try have hl1_0_1:w.heap.size+1<w1.heap.size:=by omega);(try have hl1_0_2:w.heap.size+2<w1.heap.size:=by omega)
 have hE6:=hE5.gr hg1
 have hB6:=hB5.gr hg1
 have hg6:=hg5.trans hg1
 have hb4:=hE6.lt
 have hbg:=hg6.size
 have y0:=hE6.lt
 have y1:=(hE6.cel.2 7 _ rfl).1
 have y2:=(hE6.cel.2 7 _ rfl).2
 have gA:=(Gr.refl (w1.setCell ⟨w.heap.size+1+1+1+1,7,none⟩ (.slice (some ⟨w1.heap.size,0,none⟩) 2 2))).alloc (.cells (lx ++ ly).toArray 41)
 have hE7:=(hE6.set 7 (.slice (some ⟨w1.heap.size,0,none⟩) 2 2)).gr gA
 have hB7:=(blk_other hB6 (p:=⟨w.heap.size+1+1+1+1,7,none⟩) (by show w.heap.size+1+1+1+1≠_;omega) (.slice (some ⟨w1.heap.size,0,none⟩) 2 2)).gr gA
 have hR7:=blkE_at (w:=w1.setCell ⟨w.heap.size+1+1+1+1,7,none⟩ (.slice (some ⟨w1.heap.size,0,none⟩) 2 2)) (k:=w1.heap.size) (by simp) (lx ++ ly) 41
 have hg7:Gr w ((w1.setCell ⟨w.heap.size+1+1+1+1,7,none⟩ (.slice (some ⟨w1.heap.size,0,none⟩) 2 2)).alloc (.cells (lx ++ ly).toArray 41)):=(hg6.setCell (by show w.heap.size≤w.heap.size+1+1+1+1;omega) _).trans gA
 clear hI5 hA5 hM5 hE5 hB5 hg5 gA lp1 lp2 z0 z1 z2 z3 hg1 hc1 hf1 hz1 HP HP2 HO
 go_upto_region 17 with (refine wpList_bs2 rfl 39 41 (.tmp 69) (.tmp 74) rfl 8 Tryz.underlying39 (by as_aux_lemma=>kernel_rfl) (by decide) (by decide) lx ly hlx.out hly.out rfl rfl ?_)
 clear hE6 hB6 hg6 y0 y1 y2
 generalize (w1.setCell ⟨w.heap.size+1+1+1+1,7,none⟩ (.slice (some ⟨w1.heap.size,0,none⟩) 2 2)).alloc (.cells (lx ++ ly).toArray 41)=W8 at *
 obtain⟨m,hm⟩:∃ m,M w1.heap.size=m:=⟨_,rfl⟩
 have hm8:m.length=k:=by rw [← hm,hMd,← hk8.out];rfl
 have hEm:Blk W8 (w.heap.size+1+1+1+1) 41 m:=by
  rw [← hm,hMd]
  exact hE7
 have hRd:Rd W8 (.slice (some ⟨w1.heap.size,0,none⟩) 2 2) 2 8 (lx ++ ly):=⟨by rw [List.length_append,hlx.out,hly.out],_,_,rfl,.inr ⟨w1.heap.size,0,rfl,hR7.lt,fun j u hu=>by
  have:=(hR7.cel.2 j u hu).1
  simpa using this⟩⟩
 have HR1:=HR.out W8 w1.heap.size hRd
 rw [hm] at HR1
 replace HR1:=Lib.hid HR1
 have ld:=ldB hm8 hEm
 have z0:=hEm.lt
 clear HR hE7 hR7 hRd hMd
 go_wp2_with (go_at_call 75;(with_reducible refine (HR1.out).mono ?_);rintro e w4 ⟨rs,rfl,hg4,hr8,hro,hx4⟩;have hB8:=hB7.gr hg4;have hrk:rs.length=k:=(by rw [hr8,hk8.out]);have st:=stB hB8 hr8 hro)
 have hb5:=blk_set hB8 rs
 have ld5:=ldB hrk hb5
 have hx5:=((hx4 (by omega)).setRow (k:=w.heap.size+1+1+1) (by omega) rs.toArray).less (b2:=w.heap.size) (by omega)
 have hg5:=gr_setRow (hg7.trans hg4) (g:=w.heap.size+1+1+1) (by omega) rs.toArray
 simp [bodyPost,results,Tryz.results43,go_sem,aE,zE,ld5]
 exact⟨hg5,hx5⟩
set_option maxRecDepth 20000 in
set_option maxHeartbeats 8000000 in
theorem clip_two3 (k kp:Nat) (hk8:8=k) (hkp:10=kp) (v1 v2:Value) (hv1:v1.oneCell'=true) (hv2:v2.oneCell'=true) (mc pa pb:List Value) (x y:Lf) (p q off tot N D E:Int) (w:World) (hm1:mc[1]?=some (.int .i64 3)) (hm16:mc[16]?=some (.int .i64 off)) (hm17:mc[17]?=some (.int .i64 tot)) (hm18:mc[18]?=some (.int .i64 p))
  (hpa:pa.length=10) (hpb:pb.length=10) (ho:0≤off∧off≤2147483647) (hq:0≤q∧q≤2147483647) (ht:0≤tot∧tot≤2147483647)
  (HO:Hid (∀ w',Calls Tryz.prog 74 #[.int .i64 (off+q+1),.int .i64 (tot+1)] w' fun e w''=>e=.returned (.tuple #[.agg #[.int .i64 N,.int .i64 D],.int .i64 E])∧Gr w' w''))
  (HP:Hid (∀ w',Gr w w'→Calls Tryz.prog 73 #[.agg #[v1,v2],.agg pa.toArray,.int .i64 q] w' fun e w''=>e=.returned (.agg (lfC x nilE).toArray)∧Gr w' w''))
  (HP2:Hid (∀ w',Gr w w'→Calls Tryz.prog 73 #[.agg #[v1,v2],.agg pb.toArray,.int .i64 q] w' fun e w''=>e=.returned (.agg (lfC y nilE).toArray)∧Gr w' w'')) :
  Calls Tryz.prog 43 #[.agg #[v1,v2],.agg mc.toArray,.agg (pa ++ pb).toArray,.int .i64 q] w fun e w'=>∃ cs,e=.returned (.agg cs.toArray)∧Gr w w'∧ExF w.heap.size w' cs (redX 3 N D p x y):=by
 obtain⟨lx,hlx0⟩:∃ l,lfC x nilE=l:=⟨_,rfl⟩
 obtain⟨ly,hly0⟩:∃ l,lfC y nilE=l:=⟨_,rfl⟩
 have hlx:lx.length=8:=by rw [← hlx0];rfl
 have hly:ly.length=8:=by rw [← hly0];rfl
 have hlo:∀ v∈lx,v.oneCell'=true:=by rw [← hlx0];exact exC_one _ _ _ _ _ _ _ _ _ _
 obtain⟨M,hMd⟩:∃ M:Nat→List Value,M=fun row=>exC 3 noTxE 0 N D p noTxE (.slice (some ⟨row,0,none⟩) 2 2):=⟨_,rfl⟩
 have HR:Hid (∀ w' row,Rd w' (.slice (some ⟨row,0,none⟩) 2 2) 2 8 (lx ++ ly)→Calls Tryz.prog 75 #[.agg (M row).toArray] w' fun e w''=>∃ rs,e=.returned (.agg rs.toArray)∧Gr w' w''∧rs.length=8∧(∀ v∈rs,v.oneCell'=true)∧(w.heap.size+1+1+1+1≤row→ExF (w.heap.size+1+1+1+1) w'' rs (redX 3 N D p x y))):=Lib.hid fun w' row h=>by
  rw [← hlx0,← hly0] at h
  rw [hMd]
  refine (reduced_mx 3 N D p x y (some ⟨row,0,none⟩) 2 nilE nilE w' (by omega) rfl rfl h).mono ?_
  rintro e w'' ⟨rfl,hg⟩
  refine⟨_,rfl,hg,?_,?_,fun hb=>red_exF hb rfl rfl (h.gr hg)⟩
  ·split <;> rfl
  ·split
   ·exact exC_one _ _ _ _ _ _ _ _ _ _
   ·exact exC_one _ _ _ _ _ _ _ _ _ _
 rw [hlx0] at HP
 rw [hly0] at HP2
 clear hlx0 hly0
 have aE:∀ w,(isAgg 41).run Tryz.prog w=.ok true w:=Tryz.isAgg41
 have zE:∀ w,(Go.sizeOf 41).run Tryz.prog w=.ok k w:=fun w=>by rw [← hk8];exact Tryz.sizeOf41 w
 have aP:∀ w,(isAgg 109).run Tryz.prog w=.ok true w:=Tryz.isAgg109
 have zP:∀ w,(Go.sizeOf 109).run Tryz.prog w=.ok kp w:=fun w=>by rw [← hkp];exact Tryz.sizeOf109 w
 have hpk:pa.length=kp:=by rw [hpa,hkp]
 have hpk2:pb.length=kp:=by rw [hpb,hkp]
 have hlk:lx.length=k:=by rw [hlx,hk8]
 have hI:=(((Blk.new w [v1,v2] 79).gr ((Gr.refl _).alloc (.cells mc.toArray 61))).gr ((Gr.refl _).alloc (.cells (pa ++ pb).toArray 110))).gr ((Gr.refl _).alloc (.cells zeroEx.toArray 41))
 have hM:=((blkE_at (w:=w.alloc (.cells #[v1,v2] 79)) (k:=w.heap.size+1) (by simp) mc 61).gr ((Gr.refl _).alloc (.cells (pa ++ pb).toArray 110))).gr ((Gr.refl _).alloc (.cells zeroEx.toArray 41))
 have hA:=(blkE_at (w:=(w.alloc (.cells #[v1,v2] 79)).alloc (.cells mc.toArray 61)) (k:=w.heap.size+1+1) (by simp) (pa ++ pb) 110).gr ((Gr.refl _).alloc (.cells zeroEx.toArray 41))
 have hB:=blkE_at (w:=((w.alloc (.cells #[v1,v2] 79)).alloc (.cells mc.toArray 61)).alloc (.cells (pa ++ pb).toArray 110)) (k:=w.heap.size+1+1+1) (by simp) zeroEx 41
 have hW:((((w.alloc (.cells #[v1,v2] 79)).alloc (.cells mc.toArray 61)).alloc (.cells (pa ++ pb).toArray 110)).alloc (.cells zeroEx.toArray 41)).heap.size=w.heap.size+1+1+1+1:=by simp
 have hg0:Gr w ((((w.alloc (.cells #[v1,v2] 79)).alloc (.cells mc.toArray 61)).alloc (.cells (pa ++ pb).toArray 110)).alloc (.cells zeroEx.toArray 41)):=((((Gr.refl w).alloc _).alloc _).alloc _).alloc _
 replace hk8:=Lib.hid hk8
 replace hkp:=Lib.hid hkp
 have hlyk:ly.length=k:=by rw [hly,hk8.out]
 replace hlx:=Lib.hid hlx
 replace hly:=Lib.hid hly
 obtain⟨E1,hE1⟩:∃ l,exC 3 noTxE 0 N D p noTxE nilE=l:=⟨_,rfl⟩
 replace hpa:=Lib.hid hpa
 replace hpb:=Lib.hid hpb
 unfold zeroEx at *
 obtain⟨E0,hE0⟩:∃ l,exC 0 noTxE 0 0 0 p noTxE nilE=l:=⟨_,rfl⟩
 have hE8:E0.length=8:=by rw [← hE0];rfl
 have hEo:∀ v∈E0,v.oneCell'=true:=by rw [← hE0];exact exC_one _ _ _ _ _ _ _ _ _ _
 replace hE0:=Lib.hid hE0
 go_enter Tryz.func43,Tryz.ntmps43
 go_upto_region 1 with fail
 generalize (((w.alloc (.cells #[v1,v2] 79)).alloc (.cells mc.toArray 61)).alloc (.cells (pa ++ pb).toArray 110)).alloc (.cells #[.int .i64 0,.string ⟨#[]⟩,.int .i64 0,.int .i64 0,.int .i64 0,.int .i64 0,.string ⟨#[]⟩,.slice none 0 0] 41)=W at *
 have z0:=hM.lt
 have z1:=(hM.cel.2 18 _ hm18).1
 have st0:=stE W E0 hE8 hEo
 have hEk:E0.length=k:=by rw [hE8,hk8.out]
 have hbE:=blkE_at hW E0 41
 have gE:=(Gr.refl W).alloc (.cells E0.toArray 41)
 rw [hW] at st0
 replace hE8:=Lib.hid hE8
 go_upto_region 2 with (refine wpList_buildTo rfl 41 #[(5,.tmp 13)] rfl (some 14) rfl E0.toArray (by rw [← hE0.out];kernel_rfl) ?_)
 have hM1:=hM.gr gE
 have hI1:=hI.gr gE
 have hA1:=hA.gr gE
 have hB1:=hB.gr gE
 have hg1:=hg0.trans gE
 have hWs:(W.alloc (.cells E0.toArray 41)).heap.size=w.heap.size+1+1+1+1+1:=by rw [World.size_alloc,hW]
 clear hM hI hA hB hg0 gE z0 z1 st0 hW hEk hEo
 generalize W.alloc (.cells E0.toArray 41)=W1 at *
 rw [← hE0.out] at hbE
 clear W hE8
 have z0:=hM1.lt
 have z1:=(hM1.cel.2 1 _ hm1).1
 have y0:=hbE.lt
 have y1:=(hbE.cel.2 0 _ rfl).1
 have y2:=(hbE.cel.2 0 _ rfl).2
 have hE2:=hbE.set 0 (.int .i64 3)
 have hM2:=blk_other hM1 (p:=⟨w.heap.size+1+1+1+1,0,none⟩) (by show w.heap.size+1+1+1+1≠_;omega) (.int .i64 3)
 have hI2:=blk_other hI1 (p:=⟨w.heap.size+1+1+1+1,0,none⟩) (by show w.heap.size+1+1+1+1≠_;omega) (.int .i64 3)
 have hA2:=blk_other hA1 (p:=⟨w.heap.size+1+1+1+1,0,none⟩) (by show w.heap.size+1+1+1+1≠_;omega) (.int .i64 3)
 have hB2:=blk_other hB1 (p:=⟨w.heap.size+1+1+1+1,0,none⟩) (by show w.heap.size+1+1+1+1≠_;omega) (.int .i64 3)
 have hg2:Gr w (W1.setCell ⟨w.heap.size+1+1+1+1,0,none⟩ (.int .i64 3)):=hg1.setCell (by show w.heap.size≤w.heap.size+1+1+1+1;omega) _
 clear hM1 hI1 hA1 hB1 hg1 hbE
 go_upto_region 13 with fail
 have hWs2:(W1.setCell ⟨w.heap.size+1+1+1+1,0,none⟩ (.int .i64 3)).heap.size=w.heap.size+1+1+1+1+1:=by simp [hWs]
 clear z0 z1 y0 y1 y2 hWs
 generalize W1.setCell ⟨w.heap.size+1+1+1+1,0,none⟩ (.int .i64 3)=W2 at *
 clear W1
 have z0:=hM2.lt
 have z1:=(hM2.cel.2 1 _ hm1).1
 have z2:=(hM2.cel.2 16 _ hm16).1
 have z3:=(hM2.cel.2 17 _ hm17).1
 go_upto_region 15 with (go_at_call 74;(with_reducible refine (HO.out _).mono ?_);rintro e w3 ⟨rfl,hg3⟩)
 clear z0 z1 z2 z3
 have hSh:=Blk.new w3 [.int .i64 N,.int .i64 D] 57
 have gA:=hg3.alloc (.cells #[.int .i64 N,.int .i64 D] 57)
 have gD:=gA.trans ((Gr.refl _).drew)
 have hs3:w.heap.size+1+1+1+1+1≤w3.heap.size:=by have:=hg3.size;omega
 have hSd:=hSh.gr ((Gr.refl _).drew)
 have hM3:=hM2.gr gD
 have hI3:=hI2.gr gD
 have hA3:=hA2.gr gD
 have hB3:=hB2.gr gD
 have hE3:=hE2.gr gD
 have hgd:=hg2.trans gD
 clear hM2 hI2 hA2 hB2 hE2 hg2 gD gA hSh hg3 hWs2 W2
 refine wp_region_still (Keep 4 (fun x=>Blk x w3.heap.size 57 [.int .i64 N,.int .i64 D])) 8 rfl (by as_aux_lemma=>kernel_rfl) ?_
 show stillAny _ _ _ _ _ _ #[false,false,false,false,false,false,false,false] _ _
 generalize (w3.alloc (.cells #[.int .i64 N,.int .i64 D] 57)).drew=wd at *
 generalize w3.heap.size=s at *
 clear w3
 refine still_pure 0 (v:=.pointer (some ⟨s,0,none⟩)) rfl (by as_aux_lemma=>kernel_rfl) (by as_aux_lemma=>kernel_rfl) (by as_aux_lemma=>kernel_rfl) (fun _=>hSd) rfl (fun w hw=>?_) ?_
 ·(try replace hw:=hw (by decide))
  (try have hq0:=hw.lt)
  (try have hq1:=(hw.cel.2 0 _ rfl).1)
  (try have hq2:=(hw.cel.2 1 _ rfl).1)
  (try simp at hq0 hq1 hq2)
  first | (simp [execOp,go_sem,hq0,hq1,hq2];done) | (simp [execOp,go_sem];done)
 simp only [Act.put,zG,zH,zK,zI,zS,zZ]
 refine still_pure 1 (v:=.int .i64 N) rfl (by as_aux_lemma=>kernel_rfl) (by as_aux_lemma=>kernel_rfl) (by as_aux_lemma=>kernel_rfl) (fun _=>hSd) rfl (fun w hw=>?_) ?_
 ·(try replace hw:=hw (by decide))
  (try have hq0:=hw.lt)
  (try have hq1:=(hw.cel.2 0 _ rfl).1)
  (try have hq2:=(hw.cel.2 1 _ rfl).1)
  (try simp at hq0 hq1 hq2)
  first | (simp [execOp,go_sem,hq0,hq1,hq2];done) | (simp [execOp,go_sem];done)
 simp only [Act.put,zG,zH,zK,zI,zS,zZ]
 refine still_pure 2 (v:=.pointer (some ⟨s,1,none⟩)) rfl (by as_aux_lemma=>kernel_rfl) (by as_aux_lemma=>kernel_rfl) (by as_aux_lemma=>kernel_rfl) (fun _=>hSd) rfl (fun w hw=>?_) ?_
 ·(try replace hw:=hw (by decide))
  (try have hq0:=hw.lt)
  (try have hq1:=(hw.cel.2 0 _ rfl).1)
  (try have hq2:=(hw.cel.2 1 _ rfl).1)
  (try simp at hq0 hq1 hq2)
  first | (simp [execOp,go_sem,hq0,hq1,hq2];done) | (simp [execOp,go_sem];done)
 simp only [Act.put,zG,zH,zK,zI,zS,zZ]
 refine still_pure 3 (v:=.int .i64 D) rfl (by as_aux_lemma=>kernel_rfl) (by as_aux_lemma=>kernel_rfl) (by as_aux_lemma=>kernel_rfl) (fun _=>hSd) rfl (fun w hw=>?_) ?_
 ·(try replace hw:=hw (by decide))
  (try have hq0:=hw.lt)
  (try have hq1:=(hw.cel.2 0 _ rfl).1)
  (try have hq2:=(hw.cel.2 1 _ rfl).1)
  (try simp at hq0 hq1 hq2)
  first | (simp [execOp,go_sem,hq0,hq1,hq2];done) | (simp [execOp,go_sem];done)
 simp only [Act.put,zG,zH,zK,zI,zS,zZ]
 refine still_pure 4 (v:=.pointer (some ⟨w.heap.size+1+1+1+1,3,none⟩)) rfl (by as_aux_lemma=>kernel_rfl) (by as_aux_lemma=>kernel_rfl) (by as_aux_lemma=>kernel_rfl) (fun _=>hSd) rfl (fun w hw=>?_) ?_
 ·(try replace hw:=hw (by decide))
  (try have hq0:=hw.lt)
  (try have hq1:=(hw.cel.2 0 _ rfl).1)
  (try have hq2:=(hw.cel.2 1 _ rfl).1)
  (try simp at hq0 hq1 hq2)
  first | (simp [execOp,go_sem,hq0,hq1,hq2];done) | (simp [execOp,go_sem];done)
 simp only [Act.put,zG,zH,zK,zI,zS,zZ]
 have y0:=hE3.lt
 have y1:=(hE3.cel.2 3 _ rfl).1
 have y2:=(hE3.cel.2 3 _ rfl).2
 have hE4:=hE3.set 3 (.int .i64 N)
 have hM4:=blk_other hM3 (p:=⟨w.heap.size+1+1+1+1,3,none⟩) (by show w.heap.size+1+1+1+1≠_;omega) (.int .i64 N)
 have hI4:=blk_other hI3 (p:=⟨w.heap.size+1+1+1+1,3,none⟩) (by show w.heap.size+1+1+1+1≠_;omega) (.int .i64 N)
 have hA4:=blk_other hA3 (p:=⟨w.heap.size+1+1+1+1,3,none⟩) (by show w.heap.size+1+1+1+1≠_;omega) (.int .i64 N)
 have hB4:=blk_other hB3 (p:=⟨w.heap.size+1+1+1+1,3,none⟩) (by show w.heap.size+1+1+1+1≠_;omega) (.int .i64 N)
 have hg4:Gr w (wd.setCell ⟨w.heap.size+1+1+1+1,3,none⟩ (.int .i64 N)):=hgd.setCell (by show w.heap.size≤w.heap.size+1+1+1+1;omega) _
 have hSd4:=blk_other hSd (p:=⟨w.heap.size+1+1+1+1,3,none⟩) (by show w.heap.size+1+1+1+1≠_;omega) (.int .i64 N)
 refine still_next (j:=5) (by as_aux_lemma=>kernel_rfl) (by rfl) (fun R hR=>?_)
 (try simp only [zG,zH,zK])
 go_wp2_with fail
 refine only_normal (hR _ _ (Keep.step (fun h=>blk_other h (by show w.heap.size+1+1+1+1≠_;omega) _)) ?_)
 clear hR R
 simp only [Act.put,zI,zS,zZ]
 clear hM3 hI3 hA3 hB3 hE3 hgd hSd y0 y1 y2
 generalize wd.setCell ⟨w.heap.size+1+1+1+1,3,none⟩ (.int .i64 N)=we at *
 clear wd
 refine still_pure 6 (v:=.pointer (some ⟨w.heap.size+1+1+1+1,4,none⟩)) rfl (by as_aux_lemma=>kernel_rfl) (by as_aux_lemma=>kernel_rfl) (by as_aux_lemma=>kernel_rfl) (fun _=>hSd4) rfl (fun w hw=>?_) ?_
 ·(try replace hw:=hw (by decide))
  (try have hq0:=hw.lt)
  (try have hq1:=(hw.cel.2 0 _ rfl).1)
  (try have hq2:=(hw.cel.2 1 _ rfl).1)
  (try simp at hq0 hq1 hq2)
  first | (simp [execOp,go_sem,hq0,hq1,hq2];done) | (simp [execOp,go_sem];done)
 simp only [Act.put,zG,zH,zK,zI,zS,zZ]
 have y0:=hE4.lt
 have y1:=(hE4.cel.2 4 _ rfl).1
 have y2:=(hE4.cel.2 4 _ rfl).2
 have hE5:=hE4.set 4 (.int .i64 D)
 have hM5:=blk_other hM4 (p:=⟨w.heap.size+1+1+1+1,4,none⟩) (by show w.heap.size+1+1+1+1≠_;omega) (.int .i64 D)
 have hI5:=blk_other hI4 (p:=⟨w.heap.size+1+1+1+1,4,none⟩) (by show w.heap.size+1+1+1+1≠_;omega) (.int .i64 D)
 have hA5:=blk_other hA4 (p:=⟨w.heap.size+1+1+1+1,4,none⟩) (by show w.heap.size+1+1+1+1≠_;omega) (.int .i64 D)
 have hB5:=blk_other hB4 (p:=⟨w.heap.size+1+1+1+1,4,none⟩) (by show w.heap.size+1+1+1+1≠_;omega) (.int .i64 D)
 have hg5:Gr w (we.setCell ⟨w.heap.size+1+1+1+1,4,none⟩ (.int .i64 D)):=hg4.setCell (by show w.heap.size≤w.heap.size+1+1+1+1;omega) _
 refine still_next (j:=7) (by as_aux_lemma=>kernel_rfl) (by rfl) (fun R hR=>?_)
 (try simp only [zG,zH,zK])
 go_wp2_with fail
 refine only_normal (hR _ _ (Keep.last (by as_aux_lemma=>kernel_rfl)) ?_)
 clear hR R
 simp only [Act.put,zI,zS,zZ]
 refine still_done (by as_aux_lemma=>kernel_rfl) ?_
 (try simp only [zG,zH,zK,zI,zS,zZ])
 clear hM4 hI4 hA4 hB4 hE4 hg4 hSd4 y0 y1 y2
 generalize we.setCell ⟨w.heap.size+1+1+1+1,4,none⟩ (.int .i64 D)=wf at *
 clear we
 go_upto_region 16 with fail
 have z0:=hI5.lt
 have z1:=(hI5.cel.2 0 _ rfl).1
 have z2:=(hI5.cel.2 1 _ rfl).1
 have z3:=hA5.lt
 have lp1:∀ w',Gr wf w'→Sem.run Tryz.prog (loadCellsFrom ⟨w.heap.size+1+1,0,none⟩ 0 kp #[]) w'=.ok pa.toArray w':=fun w' hg=>(ldP hpk hpk2 (hA5.gr hg)).1
 have lp2:∀ w',Gr wf w'→Sem.run Tryz.prog (loadCellsFrom ⟨w.heap.size+1+1,kp,none⟩ 0 kp #[]) w'=.ok pb.toArray w':=fun w' hg=>(ldP hpk hpk2 (hA5.gr hg)).2
 refine wp_region_gr_tail 10 (by as_aux_lemma=>kernel_rfl) (by as_aux_lemma=>kernel_rfl) (fun hq1 hq2=>?_)
 simp only [List.take_succ_cons,List.take_zero,List.drop_succ_cons,List.drop_zero]
 repeat (first | go_big_quiet_skip | (go_big_quiet_want;go_big_quiet_op;first | go_big_quiet_on | (apply Exists.intro;refine⟨fun _=>?_,?_⟩;(· (first | (go_at_call 73;with_reducible exact gr_call (HP.out _ (hg5.trans (GW.h _)))) | (go_at_call 73;with_reducible exact gr_call (HP2.out _ (hg5.trans (GW.h _)))) | (rw [lp1 _ (GW.h _)];exact⟨rfl,rfl⟩) | (rw [lp2 _ (GW.h _)];exact⟨rfl,rfl⟩)));go_big_quiet_on)))
 refine wpQuiet_nil ?_
 clear hq1 hq2
 rintro w1 ⟨⟨_,hg1⟩,rfl⟩
 obtain⟨hc1,hf1⟩:=hg1.cells
 have hz1:=hg1.size
 (try simp at hz1);(try have hl1_0_0:w.heap.size<w1.heap.size:=by omega);(try have hm1_0_0:w.heap.size≤w1.heap.size:=by omega);(try have hl1_0_1:w.heap.size+1<w1.heap.size:=by omega);(try have hl1_0_2:w.heap.size+2<w1.heap.size:=by omega)
 have hE6:=hE5.gr hg1
 have hB6:=hB5.gr hg1
 have hg6:=hg5.trans hg1
 have hb4:=hE6.lt
 have hbg:=hg6.size
 have y0:=hE6.lt
 have y1:=(hE6.cel.2 7 _ rfl).1
 have y2:=(hE6.cel.2 7 _ rfl).2
 have gA:=(Gr.refl (w1.setCell ⟨w.heap.size+1+1+1+1,7,none⟩ (.slice (some ⟨w1.heap.size,0,none⟩) 2 2))).alloc (.cells (lx ++ ly).toArray 41)
 have hE7:=(hE6.set 7 (.slice (some ⟨w1.heap.size,0,none⟩) 2 2)).gr gA
 have hB7:=(blk_other hB6 (p:=⟨w.heap.size+1+1+1+1,7,none⟩) (by show w.heap.size+1+1+1+1≠_;omega) (.slice (some ⟨w1.heap.size,0,none⟩) 2 2)).gr gA
 have hR7:=blkE_at (w:=w1.setCell ⟨w.heap.size+1+1+1+1,7,none⟩ (.slice (some ⟨w1.heap.size,0,none⟩) 2 2)) (k:=w1.heap.size) (by simp) (lx ++ ly) 41
 have hg7:Gr w ((w1.setCell ⟨w.heap.size+1+1+1+1,7,none⟩ (.slice (some ⟨w1.heap.size,0,none⟩) 2 2)).alloc (.cells (lx ++ ly).toArray 41)):=(hg6.setCell (by show w.heap.size≤w.heap.size+1+1+1+1;omega) _).trans gA
 clear hI5 hA5 hM5 hE5 hB5 hg5 gA lp1 lp2 z0 z1 z2 z3 hg1 hc1 hf1 hz1 HP HP2 HO
 go_upto_region 17 with (refine wpList_bs2 rfl 39 41 (.tmp 69) (.tmp 74) rfl 8 Tryz.underlying39 (by as_aux_lemma=>kernel_rfl) (by decide) (by decide) lx ly hlx.out hly.out rfl rfl ?_)
 clear hE6 hB6 hg6 y0 y1 y2
 generalize (w1.setCell ⟨w.heap.size+1+1+1+1,7,none⟩ (.slice (some ⟨w1.heap.size,0,none⟩) 2 2)).alloc (.cells (lx ++ ly).toArray 41)=W8 at *
 obtain⟨m,hm⟩:∃ m,M w1.heap.size=m:=⟨_,rfl⟩
 have hm8:m.length=k:=by rw [← hm,hMd,← hk8.out];rfl
 have hEm:Blk W8 (w.heap.size+1+1+1+1) 41 m:=by
  rw [← hm,hMd]
  exact hE7
 have hRd:Rd W8 (.slice (some ⟨w1.heap.size,0,none⟩) 2 2) 2 8 (lx ++ ly):=⟨by rw [List.length_append,hlx.out,hly.out],_,_,rfl,.inr ⟨w1.heap.size,0,rfl,hR7.lt,fun j u hu=>by
  have:=(hR7.cel.2 j u hu).1
  simpa using this⟩⟩
 have HR1:=HR.out W8 w1.heap.size hRd
 rw [hm] at HR1
 replace HR1:=Lib.hid HR1
 have ld:=ldB hm8 hEm
 have z0:=hEm.lt
 clear HR hE7 hR7 hRd hMd
 go_wp2_with (go_at_call 75;(with_reducible refine (HR1.out).mono ?_);rintro e w4 ⟨rs,rfl,hg4,hr8,hro,hx4⟩;have hB8:=hB7.gr hg4;have hrk:rs.length=k:=(by rw [hr8,hk8.out]);have st:=stB hB8 hr8 hro)
 have hb5:=blk_set hB8 rs
 have ld5:=ldB hrk hb5
 have hx5:=((hx4 (by omega)).setRow (k:=w.heap.size+1+1+1) (by omega) rs.toArray).less (b2:=w.heap.size) (by omega)
 have hg5:=gr_setRow (hg7.trans hg4) (g:=w.heap.size+1+1+1) (by omega) rs.toArray
 simp [bodyPost,results,Tryz.results43,go_sem,aE,zE,ld5]
 exact⟨hg5,hx5⟩
theorem sh_of {n d:Int} (hn:0<n∧n≤9223372036854775807) (hd:0<d∧d≤9223372036854775807):oN n d=shN n d∧oD n d=shD n d:=by
 have g1:=gc_pos_left n d hn.1
 have h1:n / gc n d≤n:=Int.ediv_le_self _ (by omega)
 have h2:d / gc n d≤d:=Int.ediv_le_self _ (by omega)
 have hF:rF n d=true:=by
  unfold rF
  rw [mg_pos (by omega),decide_eq_true_eq]
  omega
 unfold oN oD rN rD shN shD
 have q1:¬ d=0:=by omega
 have q2:¬ d<0:=by omega
 simp [hF,q1,q2]
theorem clip_any (b1:Nat) (v2:Value) (hv2:v2.oneCell'=true) (m:CM) (r1 r2:ByteArray) (i1 i2 q:Int) (w:World) (hk:m.c.kind=1∨m.c.kind=2∨m.c.kind=3) (ha:m.c.a=plS r1 i1) (hb:m.c.b=plS r2 i2)
  (ho:0≤m.c.off∧m.c.off≤2147483647) (ht:0≤m.c.tot∧m.c.tot≤2147483647) (hi1:0≤i1∧i1≤1099511627776) (hi2:0≤i2∧i2≤1099511627776) (hq:0≤q∧q≤2147483647)
  (hr1:r1.size≤1000000) (hr2:r2.size≤1000000) (hF1:r1.size≠0→FrR w b1 r1∧i1+q<5000) (hF2:m.c.kind≠1→r2.size≠0→FrR w b1 r2∧i2+q<5000) :
  Calls Tryz.prog 43 #[.agg #[.map (some b1),v2],m.val,.agg (plcC r1 i1 ++ plcC r2 i2).toArray,.int .i64 q] w fun e w'=>∃ cs,e=.returned (.agg cs.toArray)∧Gr w w'∧ExF w.heap.size w' cs (clX m.c q):=by
 have HP:Hid (∀ w',Gr w w'→Calls Tryz.prog 73 #[.agg #[.map (some b1),v2],.agg (plcC r1 i1).toArray,.int .i64 q] w' fun e w''=>e=.returned (.agg (lfC (stL r1 (i1+q)) nilE).toArray)∧Gr w' w''):=
  Lib.hid fun w' hg=>pict_any b1 v2 hv2 r1 i1 q w' hr1 (fun h=>(hF1 h).1.gr hg) hi1 hq (fun h=>(hF1 h).2)
 unfold CM.val
 by_cases h1:m.c.kind=1
 ·refine (clip_cut 8 10 rfl rfl (.map (some b1)) v2 rfl hv2 m.cells (plcC r1 i1) (plcC r2 i2) (lfC (stL r1 (i1+q)) nilE) m.c.par q w (by rw [← h1];rfl) rfl (plcC_len _ _) (plcC_len _ _) rfl (exC_one _ _ _ _ _ _ _ _ _ _) HP).mono ?_
  rintro e w' ⟨rfl,hg⟩
  refine⟨_,rfl,hg,?_⟩
  unfold clX
  rw [if_neg (by omega),if_pos h1,ha,picL_pl]
  exact⟨nilE,rfl,rfl⟩
 ·have HP2:Hid (∀ w',Gr w w'→Calls Tryz.prog 73 #[.agg #[.map (some b1),v2],.agg (plcC r2 i2).toArray,.int .i64 q] w' fun e w''=>e=.returned (.agg (lfC (stL r2 (i2+q)) nilE).toArray)∧Gr w' w''):=
   Lib.hid fun w' hg=>pict_any b1 v2 hv2 r2 i2 q w' hr2 (fun h=>(hF2 h1 h).1.gr hg) hi2 hq (fun h=>(hF2 h1 h).2)
  have HO:Hid (∀ w',Calls Tryz.prog 74 #[.int .i64 (m.c.off+q+1),.int .i64 (m.c.tot+1)] w' fun e w''=>e=.returned (.tuple #[.agg #[.int .i64 (shN (m.c.off+q+1) (m.c.tot+1)),.int .i64 (shD (m.c.off+q+1) (m.c.tot+1))],.int .i64 (oE (m.c.off+q+1) (m.c.tot+1))])∧Gr w' w''):=Lib.hid fun w'=>by
   have:=of_any (m.c.off+q+1) (m.c.tot+1) w' (by unfold I64;omega) (by unfold I64;omega)
   obtain⟨e1,e2⟩:=sh_of (n:=m.c.off+q+1) (d:=m.c.tot+1) (by omega) (by omega)
   rwa [e1,e2] at this
  have hX:clX m.c q=redX m.c.kind (shN (m.c.off+q+1) (m.c.tot+1)) (shD (m.c.off+q+1) (m.c.tot+1)) m.c.par (stL r1 (i1+q)) (stL r2 (i2+q)):=by
   unfold clX
   rw [if_neg (by omega),if_neg h1,ha,hb,picL_pl,picL_pl]
  rw [hX]
  rcases hk with h | h | h
  ·exact absurd h h1
  ·have:=clip_two2 8 10 rfl rfl (.map (some b1)) v2 rfl hv2 m.cells (plcC r1 i1) (plcC r2 i2) (stL r1 (i1+q)) (stL r2 (i2+q)) m.c.par q m.c.off m.c.tot _ _ _ w (by rw [← h];rfl) rfl rfl rfl (plcC_len _ _) (plcC_len _ _) ho hq ht HO HP HP2
   rwa [← h] at this
  ·have:=clip_two3 8 10 rfl rfl (.map (some b1)) v2 rfl hv2 m.cells (plcC r1 i1) (plcC r2 i2) (stL r1 (i1+q)) (stL r2 (i2+q)) m.c.par q m.c.off m.c.tot _ _ _ w (by rw [← h];rfl) rfl rfl rfl (plcC_len _ _) (plcC_len _ _) ho hq ht HO HP HP2
   rwa [← h] at this
end Go.Proofs.YtnginfangeikpaaGreatDoor
