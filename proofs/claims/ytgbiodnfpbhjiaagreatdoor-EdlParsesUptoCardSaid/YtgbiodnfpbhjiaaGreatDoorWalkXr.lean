/-
  Contract of parseEvent of package edl.
  Conditions: the callees' contracts.
-/
import Derived.Test.YtgbiodnfpbhjiaaGreatDoorWalkXo
namespace Go.Proofs.YtgbiodnfpbhjiaaGreatDoor
open Go.RowKit Go.Lib
set_option linter.unusedSimpArgs false
set_option linter.unusedVariables false
theorem idx4_0 (E:Nat) (w:World):(Instr.index 186 (.agg #[.pointer (some ⟨E,4,none⟩),.pointer (some ⟨E,5,none⟩),.pointer (some ⟨E,6,none⟩),.pointer (some ⟨E,7,none⟩)]) (.int .i64 0)).run Tryz.prog w=.ok (.pointer (some ⟨E,4,none⟩)) w:=by
 simp [Instr.index,run_underlying Tryz.underlying186,asIntOf,go_sem]
theorem idx4_1 (E:Nat) (w:World):(Instr.index 186 (.agg #[.pointer (some ⟨E,4,none⟩),.pointer (some ⟨E,5,none⟩),.pointer (some ⟨E,6,none⟩),.pointer (some ⟨E,7,none⟩)]) (.int .i64 1)).run Tryz.prog w=.ok (.pointer (some ⟨E,5,none⟩)) w:=by
 simp [Instr.index,run_underlying Tryz.underlying186,asIntOf,go_sem]
theorem idx4_2 (E:Nat) (w:World):(Instr.index 186 (.agg #[.pointer (some ⟨E,4,none⟩),.pointer (some ⟨E,5,none⟩),.pointer (some ⟨E,6,none⟩),.pointer (some ⟨E,7,none⟩)]) (.int .i64 2)).run Tryz.prog w=.ok (.pointer (some ⟨E,6,none⟩)) w:=by
 simp [Instr.index,run_underlying Tryz.underlying186,asIntOf,go_sem]
theorem idx4_3 (E:Nat) (w:World):(Instr.index 186 (.agg #[.pointer (some ⟨E,4,none⟩),.pointer (some ⟨E,5,none⟩),.pointer (some ⟨E,6,none⟩),.pointer (some ⟨E,7,none⟩)]) (.int .i64 3)).run Tryz.prog w=.ok (.pointer (some ⟨E,7,none⟩)) w:=by
 simp [Instr.index,run_underlying Tryz.underlying186,asIntOf,go_sem]
set_option maxRecDepth 20000 in
set_option maxHeartbeats 8000000 in
theorem pevent_core (S:ByteArray) (b:Int) (w:World) (ws:List ByteArray) (hws:Hid ((split S.data.toList [32]).map toBa=ws)) (hwl:ws.length≤S.size+1) (hwz:∀ x∈ws,x.size≤S.size) (hs:S.size≤4294967296)
  (HS:Hid (∀ w',Gr w w'→Calls Tryz.prog 140 #[.string S,.string ⟨#[32]⟩] w' fun e w''=>∃ B,e=.returned (.slice (some ⟨B,0,none⟩) ws.length ws.length)∧Gr w' w''∧B<w''.heap.size∧∀ (j:Nat) (u:ByteArray),ws[j]?=some u→w''.cell? ⟨B,j,none⟩=some (.string u)))
  (HK:Hid (∀ w' (B n cap:Nat) (s0 s1:ByteArray),Gr w w'→B<w'.heap.size→2≤n→n≤cap→s1.size≤S.size→w'.cell? ⟨B,3,none⟩=some (.string s0)→w'.cell? ⟨B,3+1,none⟩=some (.string s1)→Calls Tryz.prog 141 #[.slice (some ⟨B,3,none⟩) n cap] w' fun e w''=>∃ (k p fr:Int) (ok:Bool) (a:Option Addr) (m c:Nat),e=.returned (.tuple #[evK k p fr,.slice a m c,.bool ok])∧Gr w' w''∧Hid (KdP B 3 n s0 s1 k p fr ok a m)))
  (HF:Hid (∀ s:ByteArray,∃ (n:Int) (ok:Bool),FrR b s n ok∧∀ w',Calls Tryz.prog 142 #[.string s,.int .i64 b] w' fun e w''=>e=.returned (.tuple #[.int .i64 n,.bool ok])∧Gr w' w'')) :
  Calls Tryz.prog 108 #[.string S,.int .i64 b] w fun e w'=>∃ (v:Ev) (ok:Bool),e=.returned (.tuple #[v.val,.bool ok])∧Gr w w'∧Hid (∀ d,PeB b d S.data.toList v ok)∧v.reel.size≤S.size:=by
 have hR0:=Blk.new w [.int .i64 0,.int .i64 0,.int .i64 0,.string ⟨#[]⟩,.int .i64 0,.int .i64 0,.int .i64 0,.int .i64 0] 30
 have hg0:Gr w (w.alloc (.cells #[.int .i64 0,.int .i64 0,.int .i64 0,.string ⟨#[]⟩,.int .i64 0,.int .i64 0,.int .i64 0,.int .i64 0] 30)):=(Gr.refl w).alloc _
 go_enter Tryz.func108,Tryz.ntmps108
 go_upto_region 2 with (go_at_call 140;(with_reducible refine (HS.out _ hg0).mono ?_);rintro e w1 ⟨B,rfl,hg1,hBw,hcB⟩)
 have hR1:=hR0.gr hg1
 have hgw:=hg0.trans hg1
 clear hg0 hR0 hg1 HS
 obtain⟨R,hR⟩:∃ R,w.heap.size=R:=⟨_,rfl⟩
 rw [hR] at hR1 ⊢
 have r0:=hR1.lt
 obtain⟨r1,v1⟩:=hR1.cel.2 0 _ rfl
 obtain⟨r2,v2⟩:=hR1.cel.2 1 _ rfl
 obtain⟨r3,v3⟩:=hR1.cel.2 2 _ rfl
 obtain⟨r4,v4⟩:=hR1.cel.2 3 _ rfl
 obtain⟨r5,v5⟩:=hR1.cel.2 4 _ rfl
 obtain⟨r6,v6⟩:=hR1.cel.2 5 _ rfl
 obtain⟨r7,v7⟩:=hR1.cel.2 6 _ rfl
 obtain⟨r8,v8⟩:=hR1.cel.2 7 _ rfl
 replace hwz:=Lib.hid hwz
 replace hcB:=Lib.hid hcB
 have hlen:Hid ((split S.data.toList [32]).length=ws.length):=Lib.hid (by rw [← hws.out,List.length_map])
 by_cases hn:ws.length<5
 ·have q1:decide ((ws.length:Int)<5)=true:=decide_eq_true (by omega)
  have q1':decide (ws.length<5)=true:=decide_eq_true hn
  have hpe:Hid (∀ d,PeB b d S.data.toList ⟨0,0,0,⟨#[]⟩,0,0,0,0⟩ false):=Lib.hid fun d=>pe_short (by rw [hlen.out];exact hn)
  replace hR:=Lib.hid hR
  clear hcB
  go_wp2
  simp [-Bool.exists_bool,-Bool.forall_bool,bodyPost,results,Tryz.results108,go_sem,r0,r1,r2,r3,r4,r5,r6,r7,r8]
  refine⟨⟨0,0,0,⟨#[]⟩,0,0,0,0⟩,false,⟨rfl,rfl⟩,?_,hpe,Nat.zero_le _⟩
  rw [← hR.out]
  repeat (first | (with_reducible exact hgw) | (with_reducible refine Gr.setCell ?_ (by simp) _))
 ·have q1:decide ((ws.length:Int)<5)=false:=decide_eq_false (by omega)
  have q1':decide (ws.length<5)=false:=decide_eq_false hn
  have hK0:∃ s0 s1,ws[3]?=some s0∧ws[4]?=some s1:=⟨ws[3],ws[4],List.getElem?_eq_getElem _,List.getElem?_eq_getElem _⟩
  obtain⟨s0,s1,hs0,hs1⟩:=hK0
  have c0:=hcB.out 3 s0 hs0
  have c1:=hcB.out 4 s1 hs1
  have hz1:s1.size≤S.size:=hwz.out _ (List.mem_of_getElem? hs1)
  have k3:(3:Int)≤(ws.length:Int):=by omega
  have k3':3≤ws.length:=by omega
  have k3n:¬ ws.length=3:=by omega
  go_upto_region 5 with (go_at_call 141;(with_reducible refine (HK.out _ B (ws.length - 3) (ws.length - 3) s0 s1 hgw hBw ?_ ?_ hz1 c0 c1).mono ?_);(· omega);(· omega);rintro e w3 ⟨k,p,fr,ok,ka,km,kc,rfl,hg3,hkd⟩;unfold evK)
  have hgA:Gr w3 (w3.alloc (.cells #[.int .i64 k,.int .i64 p,.int .i64 fr,.string ⟨#[]⟩,.int .i64 0,.int .i64 0,.int .i64 0,.int .i64 0] 30)):=(Gr.refl w3).alloc _
  have hE5:=Blk.new w3 [.int .i64 k,.int .i64 p,.int .i64 fr,.string ⟨#[]⟩,.int .i64 0,.int .i64 0,.int .i64 0,.int .i64 0] 30
  have hg13:=hg3.trans hgA
  have hR5:=hR1.gr hg13
  have hg5:=hgw.trans hg13
  have hcB5:Hid (∀ (j:Nat) (u:ByteArray),ws[j]?=some u→(w3.alloc (.cells #[.int .i64 k,.int .i64 p,.int .i64 fr,.string ⟨#[]⟩,.int .i64 0,.int .i64 0,.int .i64 0,.int .i64 0] 30)).cell? ⟨B,j,none⟩=some (.string u)):=Lib.hid fun j u hu=>(hg13.cells.1 B _ hBw).trans (hcB.out j u hu)
  have hB5:=Nat.lt_of_lt_of_le hBw hg13.size
  have hBE:B<w3.heap.size:=Nat.lt_of_lt_of_le hBw hg3.size
  have hRE:R<w3.heap.size:=Nat.lt_of_lt_of_le r0 hg3.size
  clear hgA hg3 hg13 hR1 hgw hcB hBw r0 r1 r2 r3 r4 r5 r6 r7 r8 v1 v2 v3 v4 v5 v6 v7 v8 HK c0 c1 k3 k3' k3n
  generalize w3.alloc (.cells #[.int .i64 k,.int .i64 p,.int .i64 fr,.string ⟨#[]⟩,.int .i64 0,.int .i64 0,.int .i64 0,.int .i64 0] 30)=W5 at *
  obtain⟨EB,hEB⟩:∃ EB,w3.heap.size=EB:=⟨_,rfl⟩
  rw [hEB] at hE5 hRE hBE ⊢
  clear hEB
  have hKd:Hid (∃ j,KdR ((split S.data.toList [32]).drop 3) k p fr j ok∧j≤2∧(ok=true→km=ws.length - 3 - j∧(km≠0→ka=some ⟨B,3+j,none⟩))):=Lib.hid (by
   obtain⟨j,h1,h2,h3⟩:=hkd.out
   refine⟨j,?_,h2,h3⟩
   have hd:(split S.data.toList [32]).drop 3=s0.data.toList :: s1.data.toList :: (split S.data.toList [32]).drop 5:=by
    have g:∀ (i:Nat) (u:ByteArray),ws[i]?=some u→(split S.data.toList [32])[i]?=some u.data.toList:=fun i u hu=>by
     rw [← hws.out,List.getElem?_map] at hu
     cases hx:(split S.data.toList [32])[i]? with
     | none=>rw [hx] at hu;cases hu
     | some y=>rw [hx] at hu;injection hu with hu;rw [← hu,toBa_list]
    have a3:=g 3 s0 hs0
    have a4:=g 4 s1 hs1
    obtain⟨b3,e3⟩:=List.getElem?_eq_some_iff.1 a3
    obtain⟨b4,e4⟩:=List.getElem?_eq_some_iff.1 a4
    rw [List.drop_eq_getElem_cons b3,e3,List.drop_eq_getElem_cons b4,e4]
   rw [hd]
   exact h1 _)
  clear hkd hs0 hs1 hz1 s0 s1
  have hRo:=hR
  replace hR:=Lib.hid hR
  have r0:=hR5.lt
  obtain⟨r1,v1⟩:=hR5.cel.2 0 _ rfl
  obtain⟨r2,v2⟩:=hR5.cel.2 1 _ rfl
  obtain⟨r3,v3⟩:=hR5.cel.2 2 _ rfl
  obtain⟨r4,v4⟩:=hR5.cel.2 3 _ rfl
  obtain⟨r5,v5⟩:=hR5.cel.2 4 _ rfl
  obtain⟨r6,v6⟩:=hR5.cel.2 5 _ rfl
  obtain⟨r7,v7⟩:=hR5.cel.2 6 _ rfl
  obtain⟨r8,v8⟩:=hR5.cel.2 7 _ rfl
  cases ok with
  | false=>
   have hpe:Hid (∀ d,PeB b d S.data.toList ⟨0,0,0,⟨#[]⟩,0,0,0,0⟩ false):=Lib.hid fun d=>by
    obtain⟨j,h1,_⟩:=hKd.out
    exact pe_kind h1 (.inl rfl)
   clear hKd HF
   go_wp2
   simp [-Bool.exists_bool,-Bool.forall_bool,bodyPost,results,Tryz.results108,go_sem,r0,r1,r2,r3,r4,r5,r6,r7,r8]
   refine⟨⟨0,0,0,⟨#[]⟩,0,0,0,0⟩,false,⟨rfl,rfl⟩,?_,hpe,Nat.zero_le _⟩
   repeat (first | (with_reducible exact hg5) | (with_reducible refine Gr.setCell ?_ (by simp;omega) _))
  | true=>
   by_cases h4:km=4
   ·have q4:((km:Int) != 4)=false:=by simp;omega
    have q4':(km != 4)=false:=by simp [h4]
    obtain⟨j,hK,hj2,hj3⟩:=hKd.out
    obtain⟨hkm,hka⟩:=hj3 rfl
    have hka':=hka (by omega)
    subst hka'
    clear hka hj3 hKd
    have hwl7:ws.length=7+j:=by omega
    have hg:∀ i (hi:i<ws.length),∃ u,ws[i]?=some u∧(split S.data.toList [32])[i]?=some u.data.toList:=fun i hi=>⟨ws[i],List.getElem?_eq_getElem _,by
     have hu:ws[i]?=some ws[i]:=List.getElem?_eq_getElem _
     generalize ws[i]=u at hu
     rw [← hws.out,List.getElem?_map] at hu
     cases hx:(split S.data.toList [32])[i]? with
     | none=>rw [hx] at hu;cases hu
     | some y=>rw [hx] at hu;injection hu with hu;rw [← hu,toBa_list]⟩
    obtain⟨u1,a1,b1⟩:=hg 1 (by omega)
    obtain⟨x0,ax0,bx0⟩:=hg (3+j) (by omega)
    obtain⟨x1,ax1,bx1⟩:=hg (3+j+1) (by omega)
    obtain⟨x2,ax2,bx2⟩:=hg (3+j+2) (by omega)
    obtain⟨x3,ax3,bx3⟩:=hg (3+j+3) (by omega)
    have hu1z:u1.size≤S.size:=hwz.out _ (List.mem_of_getElem? a1)
    obtain⟨n0,o0,F0,H0⟩:=HF.out x0
    obtain⟨n1,o1,F1,H1⟩:=HF.out x1
    obtain⟨n2,o2,F2,H2⟩:=HF.out x2
    obtain⟨n3,o3,F3,H3⟩:=HF.out x3
    replace H0:=Lib.hid H0
    replace H1:=Lib.hid H1
    replace H2:=Lib.hid H2
    replace H3:=Lib.hid H3
    obtain⟨rl,hrl⟩:∃ rl,reelW u1=rl:=⟨_,rfl⟩
    have hrlz:rl.size≤S.size:=by
     rw [← hrl]
     unfold reelW
     split
     ·exact Nat.zero_le _
     ·exact hu1z
    have hdr:∀ i,((split S.data.toList [32]).drop 3).drop j=((split S.data.toList [32]).drop 3).drop j→(((split S.data.toList [32]).drop 3).drop j)[i]?=(split S.data.toList [32])[3+j+i]?:=fun i _=>by
     rw [List.getElem?_drop,List.getElem?_drop]
     congr 1
     omega
    have hall:Hid (o0=true→o1=true→o2=true→o3=true→∀ d,PeB b d S.data.toList ⟨k,p,fr,rl,n0,n1,n2,n3⟩ true):=Lib.hid fun q0 q1 q2 q3 d=>by
     subst q0 q1 q2 q3
     rw [← hrl]
     exact pe_all hK b1 (by rw [hdr _ rfl];exact bx0) (by rw [hdr _ rfl];exact bx1) (by rw [hdr _ rfl];exact bx2) (by rw [hdr _ rfl];exact bx3) F0 F1 F2 F3
    have hf0:Hid (o0=false→∀ d e,PeB b d S.data.toList e false):=Lib.hid fun q d e=>by
     subst q
     exact pe_code hK (i:=0) (by omega) (by rw [hdr _ rfl];exact bx0) F0
    have hf1:Hid (o1=false→∀ d e,PeB b d S.data.toList e false):=Lib.hid fun q d e=>by
     subst q
     exact pe_code hK (i:=1) (by omega) (by rw [hdr _ rfl];exact bx1) F1
    have hf2:Hid (o2=false→∀ d e,PeB b d S.data.toList e false):=Lib.hid fun q d e=>by
     subst q
     exact pe_code hK (i:=2) (by omega) (by rw [hdr _ rfl];exact bx2) F2
    have hf3:Hid (o3=false→∀ d e,PeB b d S.data.toList e false):=Lib.hid fun q d e=>by
     subst q
     exact pe_code hK (i:=3) (by omega) (by rw [hdr _ rfl];exact bx3) F3
    have d1:=hcB5.out 1 u1 a1
    have hd0:=hcB5.out _ x0 ax0
    have hd1:=hcB5.out _ x1 ax1
    have hd2:=hcB5.out _ x2 ax2
    have hd3:=hcB5.out _ x3 ax3
    obtain⟨J,hJ⟩:∃ J,3+j=J:=⟨_,rfl⟩
    rw [hJ] at hd0 hd1 hd2 hd3 ⊢
    have l1:(1:Int)<(ws.length:Int):=by omega
    have l1':1<ws.length:=by omega
    clear hg hdr hK hkm F0 F1 F2 F3 bx0 bx1 bx2 bx3 b1 ax0 ax1 ax2 ax3 a1 hJ hj2 hwl7 hcB5 HF hlen hws hwz hwl
    clear r0 r1 r2 r3 r4 r5 r6 r7 r8 v1 v2 v3 v4 v5 v6 v7 v8
    subst h4
    replace hd0:=Lib.hid hd0
    replace hd1:=Lib.hid hd1
    replace hd2:=Lib.hid hd2
    replace hd3:=Lib.hid hd3
    go_upto_if 38 with fail
    go_cut [] (fun wx=>Gr w wx∧Blk wx R 30 [.int .i64 0,.int .i64 0,.int .i64 0,.string ⟨#[]⟩,.int .i64 0,.int .i64 0,.int .i64 0,.int .i64 0]∧Blk wx EB 30 [.int .i64 k,.int .i64 p,.int .i64 fr,.string rl,.int .i64 0,.int .i64 0,.int .i64 0,.int .i64 0]∧B<wx.heap.size∧wx.cell? ⟨B,J,none⟩=some (.string x0)∧wx.cell? ⟨B,J+1,none⟩=some (.string x1)∧wx.cell? ⟨B,J+2,none⟩=some (.string x2)∧wx.cell? ⟨B,J+3,none⟩=some (.string x3))
    case first=>
     by_cases hb:u1.data.toList=[66,76]
     ·have qb:(u1.toList == [66,76])=true:=by rw [bl_iff];exact decide_eq_true hb
      have hr0:rl=⟨#[]⟩:=by rw [← hrl];unfold reelW;rw [if_pos hb]
      replace hrl:=Lib.hid hrl
      simp only [qb,Bool.not_true,Bool.not_false]
      go_wp2_with fail
      go_meet
      exact⟨hg5,hR5,by rw [hr0];exact hE5,hB5,hd0.out,hd1.out,hd2.out,hd3.out⟩
     ·have qb:(u1.toList == [66,76])=false:=by rw [bl_iff];exact decide_eq_false hb
      have hr0:rl=u1:=by rw [← hrl];unfold reelW;rw [if_neg hb]
      replace hrl:=Lib.hid hrl
      have hE6:=hE5.set 3 (.string u1)
      simp only [zS,zZ] at hE6
      have hR6:=hR5.other (p:=⟨EB,3,none⟩) (by simp;omega) (.string u1)
      have hg6:Gr w (W5.setCell ⟨EB,3,none⟩ (.string u1)):=hg5.setCell (by simp;omega) _
      have hgs:=grown_setCell W5 ⟨EB,3,none⟩ (.string u1)
      have t0:=hE5.lt
      obtain⟨t1,t2⟩:=hE5.cel.2 3 _ rfl
      replace hE6:=Lib.hid hE6
      replace hr0:=Lib.hid hr0
      simp only [qb,Bool.not_true,Bool.not_false]
      go_wp2_with fail
      go_meet
      have hco:∀ (q:Nat) (v:Value),W5.cell? ⟨B,q,none⟩=some v→(W5.setCell ⟨EB,3,none⟩ (.string u1)).cell? ⟨B,q,none⟩=some v:=fun q v h=>cell_other h hB5 (by simp;omega) _
      exact⟨hg6,hR6,by rw [hr0.out];exact hE6.out,by simpa using hB5,hco _ _ hd0.out,hco _ _ hd1.out,hco _ _ hd2.out,hco _ _ hd3.out⟩
    case rest=>
     obtain⟨hg6,hR6,hE6,hB6,e0,e1,e2,e3⟩:=hcut
     clear hd0 hd1 hd2 hd3 hg5 hR5 hE5 hB5 d1 l1 l1'
     have z0:=hE6.lt
     go_upto_region 9 with fail
     go_wp2
     go_loopw [48] (fun v wx=>∃ jj:Nat,jj≤4∧v=.int .i64 jj∧Gr w wx∧Blk wx R 30 [.int .i64 0,.int .i64 0,.int .i64 0,.string ⟨#[]⟩,.int .i64 0,.int .i64 0,.int .i64 0,.int .i64 0]∧B<wx.heap.size∧EB<wx.heap.size∧wx.cell? ⟨B,J,none⟩=some (.string x0)∧wx.cell? ⟨B,J+1,none⟩=some (.string x1)∧wx.cell? ⟨B,J+2,none⟩=some (.string x2)∧wx.cell? ⟨B,J+3,none⟩=some (.string x3)∧((jj=0∧Blk wx EB 30 [.int .i64 k,.int .i64 p,.int .i64 fr,.string rl,.int .i64 0,.int .i64 0,.int .i64 0,.int .i64 0]∧True)∨(jj=1∧Blk wx EB 30 [.int .i64 k,.int .i64 p,.int .i64 fr,.string rl,.int .i64 n0,.int .i64 0,.int .i64 0,.int .i64 0]∧o0=true)∨(jj=2∧Blk wx EB 30 [.int .i64 k,.int .i64 p,.int .i64 fr,.string rl,.int .i64 n0,.int .i64 n1,.int .i64 0,.int .i64 0]∧o0=true∧o1=true)∨(jj=3∧Blk wx EB 30 [.int .i64 k,.int .i64 p,.int .i64 fr,.string rl,.int .i64 n0,.int .i64 n1,.int .i64 n2,.int .i64 0]∧o0=true∧o1=true∧o2=true)∨(jj=4∧Blk wx EB 30 [.int .i64 k,.int .i64 p,.int .i64 fr,.string rl,.int .i64 n0,.int .i64 n1,.int .i64 n2,.int .i64 n3]∧o0=true∧o1=true∧o2=true∧o3=true))) (fun v _=>4 - (RowKit.intOf v).toNat)
     case atStart=>exact⟨0,by omega,rfl,hg6,hR6,hB6,hE6.lt,e0,e1,e2,e3,.inl ⟨rfl,hE6,trivial⟩⟩
     case round=>
      obtain⟨jj,hjj,rfl,hg,hRr,hBr,hEr,e0,e1,e2,e3,hc⟩:=hrel
      clear hg6 hR6 hE6 hB6 z0
      rcases hc with ⟨rfl,hE,p0⟩ | ⟨rfl,hE,p0⟩ | ⟨rfl,hE,p0,p1⟩ | ⟨rfl,hE,p0,p1,p2⟩ | ⟨rfl,hE,p0,p1,p2,p3⟩
      ·have ec:=e0
       have hix:=idx4_0 EB
       replace e0:=Lib.hid e0
       replace e1:=Lib.hid e1
       replace e2:=Lib.hid e2
       replace e3:=Lib.hid e3
       replace hE:=Lib.hid hE
       go_upto_region 13 with (go_at_call 142;(with_reducible refine (H0.out _).mono ?_);rintro e w9 ⟨rfl,hg9⟩)
       have hg10:=hg.trans hg9
       have hR10:=hRr.gr hg9
       have hE10:=hE.out.gr hg9
       have hB10:=Nat.lt_of_lt_of_le hBr hg9.size
       have k0:=(hg9.cells.1 B _ hBr).trans e0.out
       have k1:=(hg9.cells.1 B _ hBr).trans e1.out
       have k2:=(hg9.cells.1 B _ hBr).trans e2.out
       have k3:=(hg9.cells.1 B _ hBr).trans e3.out
       clear e0 e1 e2 e3 hE hg hRr hEr hBr hg9 ec hix
       cases o0 with
       | false=>
        have hpe:=hf0.out rfl
        replace hpe:=Lib.hid hpe
        have r0:=hR10.lt
        obtain⟨r1,v1⟩:=hR10.cel.2 0 _ rfl
        obtain⟨r2,v2⟩:=hR10.cel.2 1 _ rfl
        obtain⟨r3,v3⟩:=hR10.cel.2 2 _ rfl
        obtain⟨r4,v4⟩:=hR10.cel.2 3 _ rfl
        obtain⟨r5,v5⟩:=hR10.cel.2 4 _ rfl
        obtain⟨r6,v6⟩:=hR10.cel.2 5 _ rfl
        obtain⟨r7,v7⟩:=hR10.cel.2 6 _ rfl
        obtain⟨r8,v8⟩:=hR10.cel.2 7 _ rfl
        clear hall hf0 hf1 hf2 hf3 H0 H1 H2 H3 k0 k1 k2 k3
        go_wp2
        simp [-Bool.exists_bool,-Bool.forall_bool,bodyPost,results,Tryz.results108,go_sem,r0,r1,r2,r3,r4,r5,r6,r7,r8]
        refine⟨⟨0,0,0,⟨#[]⟩,0,0,0,0⟩,false,⟨rfl,rfl⟩,?_,Lib.hid fun d=>hpe.out d _,Nat.zero_le _⟩
        repeat (first | (with_reducible exact hg10) | (with_reducible refine Gr.setCell ?_ (by simp;omega) _))
       | true=>
        have hE11:=hE10.set 4 (.int .i64 n0)
        simp only [zS,zZ] at hE11
        have hR11:=hR10.other (p:=⟨EB,4,none⟩) (by simp;omega) (.int .i64 n0)
        have hg11:Gr w (w9.setCell ⟨EB,4,none⟩ (.int .i64 n0)):=hg10.setCell (by simp;omega) _
        have hB11:B<(w9.setCell ⟨EB,4,none⟩ (.int .i64 n0)).heap.size:=by simpa using hB10
        have j0:=cell_other (p:=⟨EB,4,none⟩) k0 hB10 (by simp;omega) (.int .i64 n0)
        have j1:=cell_other (p:=⟨EB,4,none⟩) k1 hB10 (by simp;omega) (.int .i64 n0)
        have j2:=cell_other (p:=⟨EB,4,none⟩) k2 hB10 (by simp;omega) (.int .i64 n0)
        have j3:=cell_other (p:=⟨EB,4,none⟩) k3 hB10 (by simp;omega) (.int .i64 n0)
        have t0:=hE10.lt
        obtain⟨t1,t2⟩:=hE10.cel.2 4 _ rfl
        replace hE11:=Lib.hid hE11
        replace hR11:=Lib.hid hR11
        replace hg11:=Lib.hid hg11
        replace j0:=Lib.hid j0
        replace j1:=Lib.hid j1
        replace j2:=Lib.hid j2
        replace j3:=Lib.hid j3
        clear hg10 hR10 hE10 k0 k1 k2 k3
        go_wp2
        go_roundw
        case rel=>exact⟨1,by omega,by go_num,hg11.out,hR11.out,hB11,hE11.out.lt,j0.out,j1.out,j2.out,j3.out,.inr (.inl ⟨rfl,hE11.out,(by trivial)⟩)⟩
        case measure=>simp [RowKit.intOf]
      ·have ec:=e1
       have hix:=idx4_1 EB
       replace e0:=Lib.hid e0
       replace e1:=Lib.hid e1
       replace e2:=Lib.hid e2
       replace e3:=Lib.hid e3
       replace hE:=Lib.hid hE
       go_upto_region 13 with (go_at_call 142;(with_reducible refine (H1.out _).mono ?_);rintro e w9 ⟨rfl,hg9⟩)
       have hg10:=hg.trans hg9
       have hR10:=hRr.gr hg9
       have hE10:=hE.out.gr hg9
       have hB10:=Nat.lt_of_lt_of_le hBr hg9.size
       have k0:=(hg9.cells.1 B _ hBr).trans e0.out
       have k1:=(hg9.cells.1 B _ hBr).trans e1.out
       have k2:=(hg9.cells.1 B _ hBr).trans e2.out
       have k3:=(hg9.cells.1 B _ hBr).trans e3.out
       clear e0 e1 e2 e3 hE hg hRr hEr hBr hg9 ec hix
       cases o1 with
       | false=>
        have hpe:=hf1.out rfl
        replace hpe:=Lib.hid hpe
        have r0:=hR10.lt
        obtain⟨r1,v1⟩:=hR10.cel.2 0 _ rfl
        obtain⟨r2,v2⟩:=hR10.cel.2 1 _ rfl
        obtain⟨r3,v3⟩:=hR10.cel.2 2 _ rfl
        obtain⟨r4,v4⟩:=hR10.cel.2 3 _ rfl
        obtain⟨r5,v5⟩:=hR10.cel.2 4 _ rfl
        obtain⟨r6,v6⟩:=hR10.cel.2 5 _ rfl
        obtain⟨r7,v7⟩:=hR10.cel.2 6 _ rfl
        obtain⟨r8,v8⟩:=hR10.cel.2 7 _ rfl
        clear hall hf0 hf1 hf2 hf3 H0 H1 H2 H3 k0 k1 k2 k3
        go_wp2
        simp [-Bool.exists_bool,-Bool.forall_bool,bodyPost,results,Tryz.results108,go_sem,r0,r1,r2,r3,r4,r5,r6,r7,r8]
        refine⟨⟨0,0,0,⟨#[]⟩,0,0,0,0⟩,false,⟨rfl,rfl⟩,?_,Lib.hid fun d=>hpe.out d _,Nat.zero_le _⟩
        repeat (first | (with_reducible exact hg10) | (with_reducible refine Gr.setCell ?_ (by simp;omega) _))
       | true=>
        have hE11:=hE10.set 5 (.int .i64 n1)
        simp only [zS,zZ] at hE11
        have hR11:=hR10.other (p:=⟨EB,5,none⟩) (by simp;omega) (.int .i64 n1)
        have hg11:Gr w (w9.setCell ⟨EB,5,none⟩ (.int .i64 n1)):=hg10.setCell (by simp;omega) _
        have hB11:B<(w9.setCell ⟨EB,5,none⟩ (.int .i64 n1)).heap.size:=by simpa using hB10
        have j0:=cell_other (p:=⟨EB,5,none⟩) k0 hB10 (by simp;omega) (.int .i64 n1)
        have j1:=cell_other (p:=⟨EB,5,none⟩) k1 hB10 (by simp;omega) (.int .i64 n1)
        have j2:=cell_other (p:=⟨EB,5,none⟩) k2 hB10 (by simp;omega) (.int .i64 n1)
        have j3:=cell_other (p:=⟨EB,5,none⟩) k3 hB10 (by simp;omega) (.int .i64 n1)
        have t0:=hE10.lt
        obtain⟨t1,t2⟩:=hE10.cel.2 5 _ rfl
        replace hE11:=Lib.hid hE11
        replace hR11:=Lib.hid hR11
        replace hg11:=Lib.hid hg11
        replace j0:=Lib.hid j0
        replace j1:=Lib.hid j1
        replace j2:=Lib.hid j2
        replace j3:=Lib.hid j3
        clear hg10 hR10 hE10 k0 k1 k2 k3
        go_wp2
        go_roundw
        case rel=>exact⟨2,by omega,by go_num,hg11.out,hR11.out,hB11,hE11.out.lt,j0.out,j1.out,j2.out,j3.out,.inr (.inr (.inl ⟨rfl,hE11.out,p0,(by trivial)⟩))⟩
        case measure=>simp [RowKit.intOf]
      ·have ec:=e2
       have hix:=idx4_2 EB
       replace e0:=Lib.hid e0
       replace e1:=Lib.hid e1
       replace e2:=Lib.hid e2
       replace e3:=Lib.hid e3
       replace hE:=Lib.hid hE
       go_upto_region 13 with (go_at_call 142;(with_reducible refine (H2.out _).mono ?_);rintro e w9 ⟨rfl,hg9⟩)
       have hg10:=hg.trans hg9
       have hR10:=hRr.gr hg9
       have hE10:=hE.out.gr hg9
       have hB10:=Nat.lt_of_lt_of_le hBr hg9.size
       have k0:=(hg9.cells.1 B _ hBr).trans e0.out
       have k1:=(hg9.cells.1 B _ hBr).trans e1.out
       have k2:=(hg9.cells.1 B _ hBr).trans e2.out
       have k3:=(hg9.cells.1 B _ hBr).trans e3.out
       clear e0 e1 e2 e3 hE hg hRr hEr hBr hg9 ec hix
       cases o2 with
       | false=>
        have hpe:=hf2.out rfl
        replace hpe:=Lib.hid hpe
        have r0:=hR10.lt
        obtain⟨r1,v1⟩:=hR10.cel.2 0 _ rfl
        obtain⟨r2,v2⟩:=hR10.cel.2 1 _ rfl
        obtain⟨r3,v3⟩:=hR10.cel.2 2 _ rfl
        obtain⟨r4,v4⟩:=hR10.cel.2 3 _ rfl
        obtain⟨r5,v5⟩:=hR10.cel.2 4 _ rfl
        obtain⟨r6,v6⟩:=hR10.cel.2 5 _ rfl
        obtain⟨r7,v7⟩:=hR10.cel.2 6 _ rfl
        obtain⟨r8,v8⟩:=hR10.cel.2 7 _ rfl
        clear hall hf0 hf1 hf2 hf3 H0 H1 H2 H3 k0 k1 k2 k3
        go_wp2
        simp [-Bool.exists_bool,-Bool.forall_bool,bodyPost,results,Tryz.results108,go_sem,r0,r1,r2,r3,r4,r5,r6,r7,r8]
        refine⟨⟨0,0,0,⟨#[]⟩,0,0,0,0⟩,false,⟨rfl,rfl⟩,?_,Lib.hid fun d=>hpe.out d _,Nat.zero_le _⟩
        repeat (first | (with_reducible exact hg10) | (with_reducible refine Gr.setCell ?_ (by simp;omega) _))
       | true=>
        have hE11:=hE10.set 6 (.int .i64 n2)
        simp only [zS,zZ] at hE11
        have hR11:=hR10.other (p:=⟨EB,6,none⟩) (by simp;omega) (.int .i64 n2)
        have hg11:Gr w (w9.setCell ⟨EB,6,none⟩ (.int .i64 n2)):=hg10.setCell (by simp;omega) _
        have hB11:B<(w9.setCell ⟨EB,6,none⟩ (.int .i64 n2)).heap.size:=by simpa using hB10
        have j0:=cell_other (p:=⟨EB,6,none⟩) k0 hB10 (by simp;omega) (.int .i64 n2)
        have j1:=cell_other (p:=⟨EB,6,none⟩) k1 hB10 (by simp;omega) (.int .i64 n2)
        have j2:=cell_other (p:=⟨EB,6,none⟩) k2 hB10 (by simp;omega) (.int .i64 n2)
        have j3:=cell_other (p:=⟨EB,6,none⟩) k3 hB10 (by simp;omega) (.int .i64 n2)
        have t0:=hE10.lt
        obtain⟨t1,t2⟩:=hE10.cel.2 6 _ rfl
        replace hE11:=Lib.hid hE11
        replace hR11:=Lib.hid hR11
        replace hg11:=Lib.hid hg11
        replace j0:=Lib.hid j0
        replace j1:=Lib.hid j1
        replace j2:=Lib.hid j2
        replace j3:=Lib.hid j3
        clear hg10 hR10 hE10 k0 k1 k2 k3
        go_wp2
        go_roundw
        case rel=>exact⟨3,by omega,by go_num,hg11.out,hR11.out,hB11,hE11.out.lt,j0.out,j1.out,j2.out,j3.out,.inr (.inr (.inr (.inl ⟨rfl,hE11.out,p0,p1,(by trivial)⟩)))⟩
        case measure=>simp [RowKit.intOf]
      ·have ec:=e3
       have hix:=idx4_3 EB
       replace e0:=Lib.hid e0
       replace e1:=Lib.hid e1
       replace e2:=Lib.hid e2
       replace e3:=Lib.hid e3
       replace hE:=Lib.hid hE
       go_upto_region 13 with (go_at_call 142;(with_reducible refine (H3.out _).mono ?_);rintro e w9 ⟨rfl,hg9⟩)
       have hg10:=hg.trans hg9
       have hR10:=hRr.gr hg9
       have hE10:=hE.out.gr hg9
       have hB10:=Nat.lt_of_lt_of_le hBr hg9.size
       have k0:=(hg9.cells.1 B _ hBr).trans e0.out
       have k1:=(hg9.cells.1 B _ hBr).trans e1.out
       have k2:=(hg9.cells.1 B _ hBr).trans e2.out
       have k3:=(hg9.cells.1 B _ hBr).trans e3.out
       clear e0 e1 e2 e3 hE hg hRr hEr hBr hg9 ec hix
       cases o3 with
       | false=>
        have hpe:=hf3.out rfl
        replace hpe:=Lib.hid hpe
        have r0:=hR10.lt
        obtain⟨r1,v1⟩:=hR10.cel.2 0 _ rfl
        obtain⟨r2,v2⟩:=hR10.cel.2 1 _ rfl
        obtain⟨r3,v3⟩:=hR10.cel.2 2 _ rfl
        obtain⟨r4,v4⟩:=hR10.cel.2 3 _ rfl
        obtain⟨r5,v5⟩:=hR10.cel.2 4 _ rfl
        obtain⟨r6,v6⟩:=hR10.cel.2 5 _ rfl
        obtain⟨r7,v7⟩:=hR10.cel.2 6 _ rfl
        obtain⟨r8,v8⟩:=hR10.cel.2 7 _ rfl
        clear hall hf0 hf1 hf2 hf3 H0 H1 H2 H3 k0 k1 k2 k3
        go_wp2
        simp [-Bool.exists_bool,-Bool.forall_bool,bodyPost,results,Tryz.results108,go_sem,r0,r1,r2,r3,r4,r5,r6,r7,r8]
        refine⟨⟨0,0,0,⟨#[]⟩,0,0,0,0⟩,false,⟨rfl,rfl⟩,?_,Lib.hid fun d=>hpe.out d _,Nat.zero_le _⟩
        repeat (first | (with_reducible exact hg10) | (with_reducible refine Gr.setCell ?_ (by simp;omega) _))
       | true=>
        have hE11:=hE10.set 7 (.int .i64 n3)
        simp only [zS,zZ] at hE11
        have hR11:=hR10.other (p:=⟨EB,7,none⟩) (by simp;omega) (.int .i64 n3)
        have hg11:Gr w (w9.setCell ⟨EB,7,none⟩ (.int .i64 n3)):=hg10.setCell (by simp;omega) _
        have hB11:B<(w9.setCell ⟨EB,7,none⟩ (.int .i64 n3)).heap.size:=by simpa using hB10
        have j0:=cell_other (p:=⟨EB,7,none⟩) k0 hB10 (by simp;omega) (.int .i64 n3)
        have j1:=cell_other (p:=⟨EB,7,none⟩) k1 hB10 (by simp;omega) (.int .i64 n3)
        have j2:=cell_other (p:=⟨EB,7,none⟩) k2 hB10 (by simp;omega) (.int .i64 n3)
        have j3:=cell_other (p:=⟨EB,7,none⟩) k3 hB10 (by simp;omega) (.int .i64 n3)
        have t0:=hE10.lt
        obtain⟨t1,t2⟩:=hE10.cel.2 7 _ rfl
        replace hE11:=Lib.hid hE11
        replace hR11:=Lib.hid hR11
        replace hg11:=Lib.hid hg11
        replace j0:=Lib.hid j0
        replace j1:=Lib.hid j1
        replace j2:=Lib.hid j2
        replace j3:=Lib.hid j3
        clear hg10 hR10 hE10 k0 k1 k2 k3
        go_wp2
        go_roundw
        case rel=>exact⟨4,by omega,by go_num,hg11.out,hR11.out,hB11,hE11.out.lt,j0.out,j1.out,j2.out,j3.out,.inr (.inr (.inr (.inr (⟨rfl,hE11.out,p0,p1,p2,(by trivial)⟩))))⟩
        case measure=>simp [RowKit.intOf]
      ·have hpe:=hall.out p0 p1 p2 p3
       replace hpe:=Lib.hid hpe
       clear hall hf0 hf1 hf2 hf3 H0 H1 H2 H3 e0 e1 e2 e3
       have r0:=hRr.lt
       obtain⟨r1,v1⟩:=hRr.cel.2 0 _ rfl
       obtain⟨r2,v2⟩:=hRr.cel.2 1 _ rfl
       obtain⟨r3,v3⟩:=hRr.cel.2 2 _ rfl
       obtain⟨r4,v4⟩:=hRr.cel.2 3 _ rfl
       obtain⟨r5,v5⟩:=hRr.cel.2 4 _ rfl
       obtain⟨r6,v6⟩:=hRr.cel.2 5 _ rfl
       obtain⟨r7,v7⟩:=hRr.cel.2 6 _ rfl
       obtain⟨r8,v8⟩:=hRr.cel.2 7 _ rfl
       have y0:=hE.lt
       obtain⟨y1,u1⟩:=hE.cel.2 0 _ rfl
       obtain⟨y2,u2⟩:=hE.cel.2 1 _ rfl
       obtain⟨y3,u3⟩:=hE.cel.2 2 _ rfl
       obtain⟨y4,u4⟩:=hE.cel.2 3 _ rfl
       obtain⟨y5,u5⟩:=hE.cel.2 4 _ rfl
       obtain⟨y6,u6⟩:=hE.cel.2 5 _ rfl
       obtain⟨y7,u7⟩:=hE.cel.2 6 _ rfl
       obtain⟨y8,u8⟩:=hE.cel.2 7 _ rfl
       replace hE:=Lib.hid hE
       replace hRr:=Lib.hid hRr
       go_wp2
       simp [-Bool.exists_bool,-Bool.forall_bool,bodyPost,results,Tryz.results108,go_sem,r0,r1,r2,r3,r4,r5,r6,r7,r8]
       refine⟨⟨k,p,fr,rl,n0,n1,n2,n3⟩,true,⟨rfl,rfl⟩,?_,hpe,hrlz⟩
       repeat (first | (with_reducible exact hg) | (with_reducible refine Gr.setCell ?_ (by simp;omega) _))
   ·have q4:((km:Int) != 4)=true:=by simp;omega
    have q4':(km != 4)=true:=by simp [h4]
    have hpe:Hid (∀ d,PeB b d S.data.toList ⟨0,0,0,⟨#[]⟩,0,0,0,0⟩ false):=Lib.hid fun d=>by
     obtain⟨j,h1,h2,h3⟩:=hKd.out
     refine pe_kind h1 (.inr fun h=>h4 ?_)
     rw [(h3 rfl).1]
     rw [List.length_drop,hlen.out] at h
     omega
    clear hKd HF
    go_wp2
    simp [-Bool.exists_bool,-Bool.forall_bool,bodyPost,results,Tryz.results108,go_sem,r0,r1,r2,r3,r4,r5,r6,r7,r8]
    refine⟨⟨0,0,0,⟨#[]⟩,0,0,0,0⟩,false,⟨rfl,rfl⟩,?_,hpe,Nat.zero_le _⟩
    repeat (first | (with_reducible exact hg5) | (with_reducible refine Gr.setCell ?_ (by simp;omega) _))
end Go.Proofs.YtgbiodnfpbhjiaaGreatDoor
