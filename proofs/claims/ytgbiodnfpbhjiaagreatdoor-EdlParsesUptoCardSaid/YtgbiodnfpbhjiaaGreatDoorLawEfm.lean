/-
  Walk of the law EdlParses.
  Conditions: the string is at most 1,048,576 bytes long; the numbers lie in memory; the callees' contracts.
-/
import Derived.Test.YtgbiodnfpbhjiaaGreatDoorShelfB
import Derived.Test.YtgbiodnfpbhjiaaGreatDoorBytes
import Derived.Laws.IdiomStrings
import Derived.Deep.DeepCutAuto
namespace Go.Proofs.YtgbiodnfpbhjiaaGreatDoor
open Go.RowKit Go.Lib
set_option linter.unusedSimpArgs false
set_option linter.unusedVariables false
set_option maxRecDepth 20000 in
set_option maxHeartbeats 8000000 in
theorem lawEps_core (s:ByteArray) (a:Option Addr) (cap:Nat) (xs:List Int) (at_ c base:Int) (w:World) (hs:s.size≤1048576) (hat:I64 at_) (hc:0≤c∧c≤255)
  (HM:Hid (∀ w0,Gr w w0→Calls Tryz.prog 12 #[.slice a xs.length cap] w0 fun e w'=>∃ (l:El) (p:Option Addr) (k:Nat),e=.returned (l.val (.slice p l.evs.length k))∧Gr w0 w'∧ElR w' (.slice p l.evs.length k) l∧vEl l=true))
  (HW:Hid (∀ w',Gr w w'→Calls Tryz.prog 15 #[] w' fun e w''=>e=.returned (.bool true)∧Gr w' w''))
  (HG:Hid (∀ (l:El) (v:Value) w',Gr w w'→ElR w' v l→vEl l=true→Calls Tryz.prog 23 #[l.val v] w' fun e w''=>∃ G:ByteArray,e=.returned (.tuple #[.string G,.int .i64 0])∧Gr w' w''∧1≤G.size∧G.size≤110000))
  (HP1:Hid (∀ (x:ByteArray) (b:Int) w',Gr w w'→x.size≤2000000→Calls Tryz.prog 26 #[.string x,.int .i64 b] w' fun e w''=>∃ (l:El) (p:Option Addr) (k:Nat) (E:Int),e=.returned (.tuple #[l.val (.slice p l.evs.length k),.int .i64 E])∧Gr w' w''∧ElR w'' (.slice p l.evs.length k) l∧Hid (PrR b x.data.toList l E)))
  (HP2:Hid (∀ (x:ByteArray) (b:Int) w',Gr w w'→x.size≤2000000→Calls Tryz.prog 27 #[.string x,.int .i64 b] w' fun e w''=>∃ (l:El) (p:Option Addr) (k:Nat) (E:Int),e=.returned (.tuple #[l.val (.slice p l.evs.length k),.int .i64 E])∧Gr w' w''∧ElR w'' (.slice p l.evs.length k) l∧Hid (PrR b x.data.toList l E)))
  (HSm:Hid (∀ (l:El) (v v':Value) w',ElR w' v l→ElR w' v' l→Calls Tryz.prog 22 #[l.val v,l.val v'] w' fun e w''=>e=.returned (.bool true)∧Gr w' w''))
  (HFm:Hid (∀ (l:El) (v:Value) (b:Int) (x:ByteArray) w',Gr w w'→ElR w' v l→PrR b x.data.toList l 0→Calls Tryz.prog 23 #[l.val v] w' fun e w''=>e=.returned (.tuple #[.string x,.int .i64 0])∧Gr w' w'')) :
  Calls Tryz.prog 10 #[.string s,.slice a xs.length cap,.int .i64 at_,.int .u8 c,.int .i64 base] w fun e w'=>e=.returned (.bool true)∧Gr w w':=by
 go_enter Tryz.func10,Tryz.ntmps10
 go_upto_region 2 with (go_at_call 12;(with_reducible refine (HM.out _ (Gr.refl _)).mono ?_);rintro e w2 ⟨⟨mt,mb,md,mevs⟩,p,mc,rfl,hg2,hml,hv⟩;unfold El.val;simp only at hml hv ⊢)
 obtain⟨n,hn⟩:∃ n,mevs.length=n:=⟨_,rfl⟩
 have HG1:=Lib.hid fun w' hg hg'=>HG.out ⟨mt,mb,md,mevs⟩ _ w' hg (hml.gr hg') hv
 unfold El.val at HG1
 simp only at HG1
 rw [hn] at HG1 ⊢
 clear hml hv HM HG hn
 have hb2:=Cel.new w2 #[.string mt,.int .i64 mb,.bool md,.slice p n mc] 24
 have hgA:Gr w2 (w2.alloc (.cells #[.string mt,.int .i64 mb,.bool md,.slice p n mc] 24)):=(Gr.refl w2).alloc _
 have HG2:=Lib.hid (HG1.out _ (hg2.trans hgA) hgA)
 have hw2:=hg2.trans hgA
 clear hg2 HG1 hgA
 simp only [List.toList_toArray] at hb2
 generalize w2.alloc (.cells #[.string mt,.int .i64 mb,.bool md,.slice p n mc] 24)=W2 at *
 obtain⟨LB,hLB⟩:∃ LB,w2.heap.size=LB:=⟨_,rfl⟩
 rw [hLB] at hb2 ⊢
 clear hLB
 have y:=hb2.lt
 have y0:=(hb2.2 0 _ rfl).1
 have y1:=(hb2.2 1 _ rfl).1
 have y2:=(hb2.2 2 _ rfl).1
 have y3:=(hb2.2 3 _ rfl).1
 go_upto_region 3 with (go_at_call 23;(with_reducible refine HG2.out.mono ?_);rintro e w3 ⟨G,rfl,hg3,hG1,hG2⟩)
 have hb3:=hb2.gr hg3
 have hw3:=hw2.trans hg3
 clear y y0 y1 y2 y3 hb2 hw2 hg3 HG2
 have q0:((G.size:Int) == 0)=false:=by rw [beq_eq_false_iff_ne];omega
 have q0':(G.size == 0)=false:=by rw [beq_eq_false_iff_ne];omega
 obtain⟨bc,V3,kb,hg4,hB3⟩:=bytes_conv w3 G
 have hlt0:LB<w3.heap.size:=hb3.lt
 have hb4:=hb3.gr hg4
 have hw4:=hw3.trans hg4
 have hw3z:=hw3.size
 clear hb3 hw3
 go_upto_region 6 with fail
 clear kb hg4
 obtain⟨H,hH⟩:∃ H,w3.heap.size=H:=⟨_,rfl⟩
 rw [hH] at hB3 hlt0 hw3z ⊢
 clear hH
 obtain⟨z,hz⟩:∃ z:Nat,(wrap64 (at_.tmod (G.size:Int)+(G.size:Int))).tmod (G.size:Int)=(z:Int):=by
  have:=spot (x:=at_) (L:=(G.size:Int)) (by omega) (by omega)
  exact⟨((wrap64 (at_.tmod (G.size:Int)+(G.size:Int))).tmod (G.size:Int)).toNat,by omega⟩
 have hzl:z<G.size:=by
  have:=spot (x:=at_) (L:=(G.size:Int)) (by omega) (by omega)
  omega
 have hne:¬ G.size=0:=by omega
 obtain⟨y,c0,f0⟩:∃ y,V3.cell? ⟨H,z,none⟩=some y∧V3.frozen? ⟨H,z,none⟩=false:=by
  obtain⟨h1,h2⟩:=hB3.2 z ((byV G.data.toList)[z]'(by unfold byV;simpa using hzl)) (by simp)
  exact⟨_,h1,h2⟩
 have hBs:=hB3.set (k:=z) (by unfold byV;simpa using hzl) (.int .u8 c)
 rw [byV_set _ _ _ hc] at hBs
 have hbs:=hb4.other (p:=⟨H,z,none⟩) (by simp;omega) (.int .u8 c)
 have hws:Gr w (V3.setCell ⟨H,z,none⟩ (.int .u8 c)):=hw4.setCell (by simp;omega) _
 have hlt:=hB3.lt
 go_upto_region 7 with fail
 obtain⟨l,hl⟩:∃ l,G.data.toList.set z (UInt8.ofNat c.toNat)=l:=⟨_,rfl⟩
 have hll:l.length=G.size:=by rw [← hl];simp
 rw [hl] at hBs
 clear hl hz hzl hne c0 f0 hB3 hb4 hw4 hlt q0 q0'
 generalize V3.setCell ⟨H,z,none⟩ (.int .u8 c)=V4 at *
 have ks:∀ w,(Op.stringOp .add G s).run Tryz.prog w=.ok (.string (G ++ s)) w:=fun w=>run_string_add_sum w G s (by omega)
 have hsG:=Lib.hid (show (G ++ s).size≤2000000 by rw [ByteArray.size_append];omega)
 obtain⟨n2,hn2⟩:∃ n2,G.size / 2=n2:=⟨_,rfl⟩
 have hq:((G.size:Int)).tdiv 2=(n2:Int):=by rw [← hn2,Int.tdiv_eq_ediv_of_nonneg (by omega)];omega
 have hzl:(⟨l.toArray⟩:ByteArray).size≤2000000:=by show l.toArray.size≤2000000;simp;omega
 have hze:(G.extract 0 n2).size≤2000000:=by rw [ByteArray.size_extract];omega
 obtain⟨bl,hbl⟩:∃ bl:ByteArray,(⟨l.toArray⟩:ByteArray)=bl:=⟨_,rfl⟩
 have hzb:bl.size≤2000000:=by rw [← hbl];exact hzl
 replace hB:=hBs.drew
 replace hk0:=hbs.drew
 replace hgw:=hws.drew
 obtain⟨U,hU⟩:∃ U,V4.drew=U:=⟨_,rfl⟩
 refine wp_region_still (Keep 14 (fun x=>Cel x H (byV l))) 14 rfl (by as_aux_lemma=>kernel_rfl) ?_
 show stillAny _ _ _ _ _ _ #[false,false,false,false,false,false,false,false,false,false,false,false,false,false] _ _
 rw [hU] at hB hk0 hgw ⊢
 clear hU hBs hbs hws
 refine still_pure 0 (v:=.string s) rfl (by as_aux_lemma=>kernel_rfl) (by as_aux_lemma=>kernel_rfl) (by as_aux_lemma=>kernel_rfl) (fun _=>hB) rfl (fun w hw=>?_) ?_
 ·simp [execOp,go_sem] <;> (intros;omega)
 simp only [Act.put,zI,zS,zZ]
 refine still_pure 1 (v:=.slice (some ⟨H,0,none⟩) G.size bc) rfl (by as_aux_lemma=>kernel_rfl) (by as_aux_lemma=>kernel_rfl) (by as_aux_lemma=>kernel_rfl) (fun _=>hB) rfl (fun w hw=>?_) ?_
 ·simp [execOp,go_sem] <;> (intros;omega)
 simp only [Act.put,zI,zS,zZ]
 refine still_pure 2 (v:=.string bl) rfl (by as_aux_lemma=>kernel_rfl) (by as_aux_lemma=>kernel_rfl) (by as_aux_lemma=>kernel_rfl) (fun _=>hB) rfl (fun w hw=>?_) ?_
 ·have hq0:=bytes_back w H bc l (hw (by decide))
  rw [hbl,hll] at hq0
  simp [execOp,go_sem,hq0]
 simp only [Act.put,zI,zS,zZ]
 refine still_pure 3 (v:=.string G) rfl (by as_aux_lemma=>kernel_rfl) (by as_aux_lemma=>kernel_rfl) (by as_aux_lemma=>kernel_rfl) (fun _=>hB) rfl (fun w hw=>?_) ?_
 ·simp [execOp,go_sem] <;> (intros;omega)
 simp only [Act.put,zI,zS,zZ]
 refine still_pure 4 (v:=.string s) rfl (by as_aux_lemma=>kernel_rfl) (by as_aux_lemma=>kernel_rfl) (by as_aux_lemma=>kernel_rfl) (fun _=>hB) rfl (fun w hw=>?_) ?_
 ·simp [execOp,go_sem] <;> (intros;omega)
 simp only [Act.put,zI,zS,zZ]
 refine still_pure 5 (v:=.string (G ++ s)) rfl (by as_aux_lemma=>kernel_rfl) (by as_aux_lemma=>kernel_rfl) (by as_aux_lemma=>kernel_rfl) (fun _=>hB) rfl (fun w hw=>?_) ?_
 ·simp [execOp,go_sem,ks]
 simp only [Act.put,zI,zS,zZ]
 refine still_pure 6 (v:=.string G) rfl (by as_aux_lemma=>kernel_rfl) (by as_aux_lemma=>kernel_rfl) (by as_aux_lemma=>kernel_rfl) (fun _=>hB) rfl (fun w hw=>?_) ?_
 ·simp [execOp,go_sem] <;> (intros;omega)
 simp only [Act.put,zI,zS,zZ]
 refine still_pure 7 (v:=.slice (some ⟨H,0,none⟩) G.size bc) rfl (by as_aux_lemma=>kernel_rfl) (by as_aux_lemma=>kernel_rfl) (by as_aux_lemma=>kernel_rfl) (fun _=>hB) rfl (fun w hw=>?_) ?_
 ·simp [execOp,go_sem] <;> (intros;omega)
 simp only [Act.put,zI,zS,zZ]
 refine still_pure 8 (v:=.int .i64 G.size) rfl (by as_aux_lemma=>kernel_rfl) (by as_aux_lemma=>kernel_rfl) (by as_aux_lemma=>kernel_rfl) (fun _=>hB) rfl (fun w hw=>?_) ?_
 ·simp [execOp,go_sem] <;> (intros;omega)
 simp only [Act.put,zI,zS,zZ]
 refine still_pure 9 (v:=.int .i64 n2) rfl (by as_aux_lemma=>kernel_rfl) (by as_aux_lemma=>kernel_rfl) (by as_aux_lemma=>kernel_rfl) (fun _=>hB) rfl (fun w hw=>?_) ?_
 ·simp [execOp,go_sem,hq,IntKind.wrap_i64]
  omega
 simp only [Act.put,zI,zS,zZ]
 refine still_pure 10 (v:=.string (G.extract 0 n2)) rfl (by as_aux_lemma=>kernel_rfl) (by as_aux_lemma=>kernel_rfl) (by as_aux_lemma=>kernel_rfl) (fun _=>hB) rfl (fun w hw=>?_) ?_
 ·have i1:n2≤G.size:=by omega
  simp [execOp,go_sem,i1]
 simp only [Act.put,zI,zS,zZ]
 refine still_pure 13 (v:=.int .i64 0) rfl (by as_aux_lemma=>kernel_rfl) (by as_aux_lemma=>kernel_rfl) (by as_aux_lemma=>kernel_rfl) (fun _=>hB) rfl (fun w hw=>?_) ?_
 ·simp [execOp,go_sem] <;> (intros;omega)
 simp only [Act.put,zI,zS,zZ]
 refine still_next (j:=11) (by as_aux_lemma=>kernel_rfl) (by rfl) (fun R hR=>?_)
 (try simp only [zG,zH,zK])
 go_wp2_with fail
 have hBx:=hB.alloc (.cells #[.string s,.string bl,.string (G ++ s),.string (G.extract 0 n2)] 9)
 refine only_normal (hR _ _ (Keep.step (fun _=>hBx)) ?_)
 clear hR R
 simp only [Act.put,zI,zS,zZ]
 refine still_pure 12 (v:=.int .i64 4) rfl (by as_aux_lemma=>kernel_rfl) (by as_aux_lemma=>kernel_rfl) (by as_aux_lemma=>kernel_rfl) (fun _=>hBx) rfl (fun w hw=>?_) ?_
 ·simp [execOp,go_sem] <;> (intros;omega)
 simp only [Act.put,zI,zS,zZ]
 refine still_done (by as_aux_lemma=>kernel_rfl) ?_
 simp only [zG,zH,zK,zI,zS,zZ]
 go_wp2
 have hX:=Cel.new U #[.string s,.string bl,.string (G ++ s),.string (G.extract 0 n2)] 9
 replace hk0:=hk0.alloc (.cells #[.string s,.string bl,.string (G ++ s),.string (G.extract 0 n2)] 9)
 replace hgw:=hgw.alloc (.cells #[.string s,.string bl,.string (G ++ s),.string (G.extract 0 n2)] 9)
 simp only [List.toList_toArray] at hX hk0
 clear hB hBx ks hq hn2 hbl hll hzl
 generalize U.alloc (.cells #[.string s,.string bl,.string (G ++ s),.string (G.extract 0 n2)] 9)=U1 at *
 generalize U.heap.size=X at *
 obtain⟨x2,hx2⟩:∃ x2,G ++ s=x2:=⟨_,rfl⟩
 obtain⟨x3,hx3⟩:∃ x3,G.extract 0 n2=x3:=⟨_,rfl⟩
 rw [hx2] at hX hsG
 rw [hx3] at hX hze
 clear hx2 hx3
 go_loopw [67] (fun k wr=>∃ kk:Nat,kk≤4∧k=.int .i64 kk∧Gr w wr∧Cel wr X [.string s,.string bl,.string x2,.string x3]∧Cel wr LB [.string mt,.int .i64 mb,.bool md,.slice p n mc]) (fun k _=>4 - (RowKit.intOf k).toNat)
 case atStart=>exact⟨0,by omega,rfl,hgw,hX,hk0⟩
 case round=>
  obtain⟨kk,h3,rfl,hg,hXr,h0r⟩:=hrel
  clear hX hgw hk0
  by_cases c1:kk<4
  ·have q1:decide ((kk:Int)<4)=true:=decide_eq_true (by omega)
   obtain⟨x,hcell,hxz⟩:∃ x:ByteArray,wr.cell? ⟨X,kk,none⟩=some (.string x)∧x.size≤2000000:=by
    rcases (show kk=0∨kk=1∨kk=2∨kk=3 by omega) with rfl | rfl | rfl | rfl
    ·exact⟨s,(hXr.2 0 _ rfl).1,by omega⟩
    ·exact⟨bl,(hXr.2 1 _ rfl).1,hzb⟩
    ·exact⟨x2,(hXr.2 2 _ rfl).1,hsG.out⟩
    ·exact⟨x3,(hXr.2 3 _ rfl).1,hze⟩
   have hXlt:=hXr.lt
   have y:=h0r.lt
   have y1:=(h0r.2 1 _ rfl).1
   have hP:=Cel.new wr #[.int .i64 base,.int .i64 mb] 3
   have hgP:Gr wr (wr.alloc (.cells #[.int .i64 base,.int .i64 mb] 3)):=(Gr.refl wr).alloc _
   have hg3:=hg.trans hgP
   have hX3:=hXr.gr hgP
   have h03:=h0r.gr hgP
   replace hXr:=Lib.hid hXr
   replace h0r:=Lib.hid h0r
   simp only [List.toList_toArray] at hP
   go_wp2
   clear hgP hXr hcell hXlt hg h0r y y1
   generalize wr.alloc (.cells #[.int .i64 base,.int .i64 mb] 3)=V at *
   generalize wr.heap.size=Y at *
   go_loopw [76] (fun k wr=>∃ jj:Nat,jj≤2∧k=.int .i64 jj∧Gr w wr∧Cel wr Y [.int .i64 base,.int .i64 mb]∧Cel wr X [.string s,.string bl,.string x2,.string x3]∧Cel wr LB [.string mt,.int .i64 mb,.bool md,.slice p n mc]) (fun k _=>2 - (RowKit.intOf k).toNat)
   case atStart=>exact⟨0,by omega,rfl,hg3,hP,hX3,h03⟩
   case round=>
    obtain⟨jj,hj,rfl,hg,hPr,hXr,h0r⟩:=hrel
    clear hP hg3 hX3 h03
    by_cases cj:jj<2
    ·have q2:decide ((jj:Int)<2)=true:=decide_eq_true (by omega)
     obtain⟨kb,hk1⟩:∃ kb:Int,wr.cell? ⟨Y,jj,none⟩=some (.int .i64 kb):=by
      rcases (show jj=0∨jj=1 by omega) with rfl | rfl
      ·exact⟨base,(hPr.2 0 _ rfl).1⟩
      ·exact⟨mb,(hPr.2 1 _ rfl).1⟩
     have q4:(x.toList == x.toList)=true:=by simp
     have hPx:=hPr.lt
     replace hXr:=Lib.hid hXr
     replace hPr:=Lib.hid hPr
     replace h0r:=Lib.hid h0r
     go_upto_region 14 with (go_at_call 26;(with_reducible refine (HP1.out x kb _ hg hxz).mono ?_);rintro e w4 ⟨l1,p4,k4,f1,rfl,hg4,hE4,hr4⟩;unfold El.val)
     have hg14:Gr w4 (w4.alloc (.cells #[.string l1.title,.int .i64 l1.base,.bool l1.drop,.slice p4 l1.evs.length k4] 24)):=(Gr.refl w4).alloc _
     have hb4:=Cel.new w4 #[.string l1.title,.int .i64 l1.base,.bool l1.drop,.slice p4 l1.evs.length k4] 24
     have hE4':=hE4.gr hg14
     have hgw4:=(hg.trans hg4).trans hg14
     have hgr4:=hg4.trans hg14
     simp only [List.toList_toArray] at hb4
     clear hE4 hg4 hg14
     generalize w4.alloc (.cells #[.string l1.title,.int .i64 l1.base,.bool l1.drop,.slice p4 l1.evs.length k4] 24)=W4 at *
     obtain⟨B4,hB4⟩:∃ B4,w4.heap.size=B4:=⟨_,rfl⟩
     rw [hB4] at hb4 ⊢
     clear hB4
     go_upto_region 15 with (go_at_call 27;(with_reducible refine (HP2.out x kb _ hgw4 hxz).mono ?_);rintro e w5 ⟨l2,p5,k5,f2,rfl,hg5,hE5,hr5⟩;unfold El.val)
     obtain⟨hll,hff⟩:=hr4.out.unique hr5.out
     subst hll hff
     have hg15:Gr w5 (w5.alloc (.cells #[.string l1.title,.int .i64 l1.base,.bool l1.drop,.slice p5 l1.evs.length k5] 24)):=(Gr.refl w5).alloc _
     have hb5:=Cel.new w5 #[.string l1.title,.int .i64 l1.base,.bool l1.drop,.slice p5 l1.evs.length k5] 24
     have hgr5:=hg5.trans hg15
     have hb45:=hb4.gr hgr5
     have hE45:=hE4'.gr hgr5
     have hE55:=hE5.gr hg15
     have hgw5:=hgw4.trans hgr5
     have hgr:=hgr4.trans hgr5
     simp only [List.toList_toArray] at hb5
     have HS1:=Lib.hid (HSm.out l1 _ _ _ hE45 hE55)
     unfold El.val at HS1
     clear hE5 hg5 hg15 hb4 hE4' hgw4 hgr4 hgr5 hE55 hr5
     generalize w5.alloc (.cells #[.string l1.title,.int .i64 l1.base,.bool l1.drop,.slice p5 l1.evs.length k5] 24)=W5 at *
     obtain⟨B5,hB5⟩:∃ B5,w5.heap.size=B5:=⟨_,rfl⟩
     rw [hB5] at hb5 ⊢
     clear hB5
     have q3:(f1 != f1)=false:=by simp
     have r0:=hb45.lt
     have r1:=(hb45.2 0 _ rfl).1
     have r2:=(hb45.2 1 _ rfl).1
     have r3:=(hb45.2 2 _ rfl).1
     have r4:=(hb45.2 3 _ rfl).1
     have t0:=hb5.lt
     have t1:=(hb5.2 0 _ rfl).1
     have t2:=(hb5.2 1 _ rfl).1
     have t3:=(hb5.2 2 _ rfl).1
     have t4:=(hb5.2 3 _ rfl).1
     by_cases he0:f1=0
     ·have q5:(f1 == 0)=true:=by simp [he0]
      have hpr:PrR kb x.data.toList l1 0:=by rw [← he0];exact hr4.out
      have HF1:=Lib.hid fun w' hg hE=>HFm.out l1 (.slice p4 l1.evs.length k4) kb x w' hg hE hpr
      unfold El.val at HF1
      replace he0:=Lib.hid he0
      replace hE45:=Lib.hid hE45
      clear hpr hr4
      go_upto_region 18 with (go_at_call 22;(with_reducible refine HS1.out.mono ?_);rintro e w6 ⟨rfl,hg6⟩)
      have hb46:=hb45.gr hg6
      have hE46:=hE45.out.gr hg6
      have hgw6:=hgw5.trans hg6
      clear r0 r1 r2 r3 r4 t0 t1 t2 t3 t4 HS1
      have r0:=hb46.lt
      have r1:=(hb46.2 0 _ rfl).1
      have r2:=(hb46.2 1 _ rfl).1
      have r3:=(hb46.2 2 _ rfl).1
      have r4:=(hb46.2 3 _ rfl).1
      go_wp2_with (go_at_call 23;(with_reducible refine (HF1.out _ hgw6 hE46).mono ?_);rintro e w7 ⟨rfl,hg7⟩)
      have hgB:=(hgr.trans hg6).trans hg7
      go_roundw
      case rel=>exact⟨jj+1,by omega,by go_num,hg.trans hgB,hPr.out.gr hgB,hXr.out.gr hgB,h0r.out.gr hgB⟩
      case measure=>simp [RowKit.intOf];omega
     ·have q5:(f1 == 0)=false:=by simp [he0]
      replace he0:=Lib.hid he0
      clear hr4
      go_wp2_with (go_at_call 22;(with_reducible refine HS1.out.mono ?_);rintro e w6 ⟨rfl,hg6⟩)
      have hgB:=hgr.trans hg6
      go_roundw
      case rel=>exact⟨jj+1,by omega,by go_num,hg.trans hgB,hPr.out.gr hgB,hXr.out.gr hgB,h0r.out.gr hgB⟩
      case measure=>simp [RowKit.intOf];omega
    ·have q2:decide ((jj:Int)<2)=false:=decide_eq_false (by omega)
     replace hXr:=Lib.hid hXr
     replace h0r:=Lib.hid h0r
     clear hPr
     go_wp2
     go_roundw
     case rel=>exact⟨kk+1,by omega,by go_num,hg,hXr.out,h0r.out⟩
     case measure=>simp [RowKit.intOf];omega
  ·have q1:decide ((kk:Int)<4)=false:=decide_eq_false (by omega)
   clear hXr h0r
   go_wp2_with (go_at_call 15;(with_reducible refine (HW.out _ hg).mono ?_);rintro e w5 ⟨rfl,hg5⟩)
   go_ret
   exact⟨rfl,hg.trans hg5⟩
end Go.Proofs.YtgbiodnfpbhjiaaGreatDoor

namespace Go.Proofs.YtgbiodnfpbhjiaaGreatDoor
open Go.RowKit Go.Lib
set_option linter.unusedSimpArgs false
set_option linter.unusedVariables false
end Go.Proofs.YtgbiodnfpbhjiaaGreatDoor
