/-
  What the loop of Of of package edl has in memory.
  Conditions: none.
-/
import Derived.Test.YtgbiodnfpbhjiaaGreatDoorWalkOfC
import Derived.Laws.Rows
import Derived.Test.YtgbiodnfpbhjiaaGreatDoorShelfB
import Derived.Lib.CutLaws
namespace Go.Proofs.YtgbiodnfpbhjiaaGreatDoor
open Go.RowKit Go.Lib
set_option linter.unusedSimpArgs false
set_option linter.unusedVariables false
def Ab (acc:List Ev) (n:Int):Prop:=∀ x∈acc,0≤x.f∧x.f≤x.t∧x.t≤n∧-4611686018427387904≤x.o∧x.o≤4611686018427387904+x.t∧x.reel.size≤140737488355328
structure OfI (w Wn:World) (title:ByteArray) (base:Int) (drop:Bool) (lv:Value) (acc:List Ev) (wr:World):Prop where
 kp:Kp Wn w.heap.size wr
 gr:Gr w wr
 lb:Blk wr w.heap.size 24 [.string title,.int .i64 base,.bool drop,lv]
 eb:Blk wr (w.heap.size+1) 36 [.int .i64 0]
 row:wr.ownsRow Wn.heap.size 30 8 lv acc.length (eflat acc.reverse)
theorem row_gr {wr wx:World} {base size n:Nat} {e:TypeId} {v:Value} {xs:List Value} (h:wr.ownsRow base e size v n xs) (hg:Gr wr wx):wx.ownsRow base e size v n xs:=by
 obtain⟨hl,h0⟩:=h
 refine⟨hl,?_⟩
 rcases h0 with h0 | ⟨g,cap,cur,e1,e2,e3,r⟩
 ·exact .inl h0
 ·refine .inr ⟨g,cap,cur,e1,e2,?_,r⟩
  rw [hg.by0.block g (Array.getElem?_eq_some_iff.1 e3).1 (fun e=>by cases e)]
  exact e3
theorem OfI.by {w Wn:World} {title:ByteArray} {base:Int} {drop:Bool} {lv:Value} {acc:List Ev} {wr wx:World} (h:OfI w Wn title base drop lv acc wr) (hg:Gr wr wx):OfI w Wn title base drop lv acc wx:=
 ⟨h.kp.gr hg,h.gr.trans hg,h.lb.gr hg,h.eb.gr hg,row_gr h.row hg⟩
theorem own_capE {wr:World} {base size n:Nat} {e:TypeId} {lv:Value} {xs:List Value} (h:wr.ownsRow base e size lv n xs):∀ a m c,lv=.slice a m c→m≤c:=by
 obtain⟨_,⟨rfl,h0⟩ | ⟨g,cap,cur,rfl,_,_,hc,_⟩⟩:=h
 ·intro a m c e
  injection e with e1 e2 e3
  omega
 ·intro a m c e
  injection e with e1 e2 e3
  omega
theorem own_ne {wr:World} {base size n:Nat} {e:TypeId} {lv:Value} {xs:List Value} (h:wr.ownsRow base e size lv n xs):∀ b,b<base→lv.ownBlock≠some b:=by
 obtain⟨_,⟨rfl,h0⟩ | ⟨g,cap,cur,rfl,hg,_⟩⟩:=h
 ·intro b hb e
  simp [Value.ownBlock] at e
 ·intro b hb e
  simp [Value.ownBlock] at e
  omega
theorem own_len {wr:World} {base size n:Nat} {e:TypeId} {lv:Value} {xs:List Value} (h:wr.ownsRow base e size lv n xs):∃ a c,lv=.slice a n c:=by
 obtain⟨_,⟨rfl,h0⟩ | ⟨g,cap,cur,rfl,_⟩⟩:=h
 ·exact⟨none,0,by rw [h0]⟩
 ·exact⟨_,_,rfl⟩
theorem Kp.grow {W:World} {L:Nat} {wr wx:World} {row:Option Nat} (h:Kp W L wr) (hg:wr.grownBy wx row) (hb:∀ k,row=some k→W.heap.size≤k):Kp W L wx:=by
 refine⟨Nat.le_trans h.sz hg.size,fun b o hb2 hn=>?_⟩
 rw [← h.at_ b o hb2 hn]
 exact World.cell?_of_block (a:=⟨b,o,none⟩) (hg.block b (Nat.lt_of_lt_of_le hb2 h.sz) (by intro e;have:=hb b e.symm;omega))
theorem OfI.push {w Wn:World} {title:ByteArray} {base:Int} {drop:Bool} {lv v9:Value} {acc:List Ev} {wr w9:World} (h:OfI w Wn title base drop lv acc wr) (hW:w.heap.size+2≤Wn.heap.size) (e:Ev)
  (hown:w9.ownsRow Wn.heap.size 30 8 v9 (acc.length+1) (eflat acc.reverse ++ e.cells)) (hg:wr.grownBy w9 lv.ownBlock):OfI w Wn title base drop v9 (e :: acc) (w9.setCell ⟨w.heap.size,3,none⟩ v9):=by
 have hge:=own_ge h.row
 have hge9:=own_ge hown
 have hgS:=grown_setCell w9 ⟨w.heap.size,3,none⟩ v9
 have hne9:v9.ownBlock≠some w.heap.size:=fun h=>by have:=hge9 _ h;omega
 have hlb:=(h.lb.grown hg (fun e=>by have:=hge _ e;omega)).set 3 v9
 simp only [zS,zZ] at hlb
 refine⟨(h.kp.grow hg hge).put v9,(h.gr.grown hg (fun k hk=>by have:=hge _ hk;omega)).grown hgS (fun k hk=>by injection hk with hk;simp at hk;omega),hlb,(h.eb.grown hg (fun e=>by have:=hge _ e;omega)).other (by simp) v9,?_⟩
 have:=World.ownsRow.kept hown hgS (.inr hne9)
 rw [List.reverse_cons,eflat_append,List.length_cons]
 have hone:eflat [e]=e.cells:=by rw [eflat_cons];exact List.append_nil _
 rw [hone]
 exact this
theorem an_bnd {s:Sr} (h:vSr s):-4611686018427387904≤s.an∧s.an≤4611686018427387904:=by
 rcases h with rfl | h
 ·decide
 ·have h1:=h.a2
  have h2:=h.a1
  omega
theorem relN_sz {s:Sr} (h:vSr s):(relN s).size≤140737488355328:=by
 unfold relN
 split
 ·decide
 ·rcases h with rfl | h
  ·decide
  ·have:=nm_size h.nm
   omega
theorem mkE_ab {k p fr:Int} {s:Sr} {n len:Int} (h:vSr s) (h0:0≤n) (hl:1≤len):-4611686018427387904≤(mkE k p fr s n len).o∧(mkE k p fr s n len).o≤4611686018427387904+(n+len):=by
 have h1:=an_bnd h
 unfold mkE relI
 simp only
 split
 ·omega
 ·split <;> omega
theorem evO_ab {c:Cl} {bf:Sr} {n:Int} {e:Ev} (hc:VC c) (h:evO c bf n=some e) (h0:0≤n):e.f=n∧e.t=n+c.len∧-4611686018427387904≤e.o∧e.o≤4611686018427387904+e.t∧e.reel.size≤140737488355328:=by
 obtain⟨i1,i2,i3,i4⟩:=evO_ie hc h
 refine⟨i2,i3,?_⟩
 rw [i3]
 have hl:=hc.len.1
 unfold evO at h
 split at h
 ·split at h
  ·injection h with h
   subst h
   exact⟨(mkE_ab hc.a h0 hl).1,(mkE_ab hc.a h0 hl).2,relN_sz hc.a⟩
  ·cases h
 ·split at h
  ·split at h
   ·split at h
    ·injection h with h
     subst h
     exact⟨(mkE_ab hc.b h0 hl).1,(mkE_ab hc.b h0 hl).2,relN_sz hc.b⟩
    ·cases h
   ·cases h
  ·cases h
theorem Ab.push {e:Ev} {r:List Ev} {n ln:Int} {c:Cl} {bf:Sr} (h:Ab r n) (hc:VC c) (hl:c.len=ln) (he:evO c bf n=some e) (h0:0≤n):Ab (e :: r) (n+ln):=by
 obtain⟨e1,e2,e3,e4,e5⟩:=evO_ab hc he h0
 have:=hc.len.1
 intro y hy
 rcases List.mem_cons.1 hy with rfl | hy
 ·omega
 ·have hx:=h y hy
  omega
theorem OfI.last {w Wn:World} {title:ByteArray} {base:Int} {drop:Bool} {lv:Value} {x:Ev} {r:List Ev} {wr:World} (h:OfI w Wn title base drop lv (x :: r) wr) :
  ∃ g cap,lv=.slice (some ⟨g,0,none⟩) (r.length+1) cap∧g<wr.heap.size∧Wn.heap.size≤g∧(∀ (j:Nat) (u:Value),x.cells[j]?=some u→wr.cell? ⟨g,r.length * 8+j,none⟩=some u)∧∀ j,wr.frozen? ⟨g,j,none⟩=false:=by
 have hr:=h.row
 have hl:(x :: r).reverse.length=r.length+1:=by simp
 rcases hr.2 with ⟨e1,e2⟩ | ⟨g,cap,cur,e1,_⟩
 ·simp at e2
 ·rw [e1] at hr
  obtain⟨h1,h2⟩:=hr.lt g rfl
  refine⟨g,cap,e1,h2,h1,fun j u hu=>?_,hr.frozenAt⟩
  have hj:j<8:=(List.getElem?_eq_some_iff.1 hu).1
  rw [hr.cellAt _ (by simp only [List.length_cons];omega)]
  have hi:r.length<(x :: r).reverse.length:=by rw [hl];omega
  rw [eflat_at (x :: r).reverse r.length hi j hj]
  simpa using hu
theorem infoEvz:(Tryz.prog.info? 30).map (fun i=>(i.zero,i.size,i.bytes))=some (some (.agg #[.int .i64 0,.int .i64 0,.int .i64 0,.string ⟨#[]⟩,.int .i64 0,.int .i64 0,.int .i64 0,.int .i64 0]),8,72):=by kernel_rfl
theorem infoEvt1:(Tryz.prog.info? 30).map (·.size)=some 8:=by kernel_rfl
theorem ev_one (x:Ev):∀ v∈x.cells,v.oneCell'=true:=by
 intro v hm
 unfold Ev.cells at hm
 simp only [List.mem_cons,List.not_mem_nil,or_false] at hm
 rcases hm with rfl | rfl | rfl | rfl | rfl | rfl | rfl | rfl <;> rfl
end Go.Proofs.YtgbiodnfpbhjiaaGreatDoor

namespace Go.Proofs.YtgbiodnfpbhjiaaGreatDoor
open Go.RowKit Go.Lib
set_option linter.unusedSimpArgs false
set_option linter.unusedVariables false
structure PaI (w1:World) (LB:Nat) (title:ByteArray) (base:Int) (drop:Bool) (lv:Value) (acc:List Ev) (wr:World):Prop where
 gr:Gr w1 wr
 lb:Blk wr LB 24 [.string title,.int .i64 base,.bool drop,lv]
 row:wr.ownsRow (LB+1) 30 8 lv acc.length (eflat acc)
 ge:w1.heap.size≤LB
theorem PaI.by {w1:World} {LB:Nat} {title:ByteArray} {base:Int} {drop:Bool} {lv:Value} {acc:List Ev} {wr wx:World} (h:PaI w1 LB title base drop lv acc wr) (hg:Gr wr wx):PaI w1 LB title base drop lv acc wx:=
 ⟨h.gr.trans hg,h.lb.gr hg,row_gr h.row hg,h.ge⟩
theorem PaI.push {w1:World} {LB:Nat} {title:ByteArray} {base:Int} {drop:Bool} {lv v9:Value} {acc:List Ev} {wr w9:World} (h:PaI w1 LB title base drop lv acc wr) (e:Ev)
  (hown:w9.ownsRow (LB+1) 30 8 v9 (acc.length+1) (eflat acc ++ e.cells)) (hg:wr.grownBy w9 lv.ownBlock):PaI w1 LB title base drop v9 (acc ++ [e]) (w9.setCell ⟨LB,3,none⟩ v9):=by
 have hge:=own_ge h.row
 have hge9:=own_ge hown
 have hgS:=grown_setCell w9 ⟨LB,3,none⟩ v9
 have hne9:v9.ownBlock≠some LB:=fun h=>by have:=hge9 _ h;omega
 have hlb:=(h.lb.grown hg (fun e=>by have:=hge _ e;omega)).set 3 v9
 simp only [zS,zZ] at hlb
 have h1:=h.ge
 refine⟨(h.gr.grown hg (fun k hk=>by have:=hge _ hk;omega)).grown hgS (fun k hk=>by injection hk with hk;simp only at hk;omega),hlb,?_,h1⟩
 have:=World.ownsRow.kept hown hgS (.inr hne9)
 rw [eflat_append,List.length_append,List.length_singleton]
 have hone:eflat [e]=e.cells:=by rw [eflat_cons];exact List.append_nil _
 rw [hone]
 exact this
theorem PaI.evs {w1:World} {LB:Nat} {title:ByteArray} {base:Int} {drop:Bool} {lv:Value} {acc:List Ev} {wr:World} (h:PaI w1 LB title base drop lv acc wr):EvsR wr lv acc:=Rd.own h.row
end Go.Proofs.YtgbiodnfpbhjiaaGreatDoor

namespace Go.Proofs.YtgbiodnfpbhjiaaGreatDoor
open Go.RowKit Go.Lib
set_option linter.unusedSimpArgs false
set_option linter.unusedVariables false
theorem Packed.two:∀ {l:List Cl} {c d:Cl} {r:List Cl},Packed (l ++ c :: d :: r)→cont c d=false
 | [],_,_,_,h=>h.1
 | [x],c,d,r,h=>Packed.two (l:=[]) (r:=r) h.2
 | x :: y :: l,c,d,r,h=>Packed.two (l:=y :: l) (r:=r) h.2
end Go.Proofs.YtgbiodnfpbhjiaaGreatDoor

namespace Go.Proofs.YtgbiodnfpbhjiaaGreatDoor
open Go.RowKit Go.Lib
set_option linter.unusedSimpArgs false
set_option linter.unusedVariables false
def ttW (s:ByteArray):ByteArray:=⟨(if ([84,73,84,76,69,58,32]:List UInt8).isPrefixOf s.data.toList then s.data.toList.drop 7 else s.data.toList).toArray⟩
theorem ttW_size (s:ByteArray):(ttW s).size≤s.size:=by
 rw [← ba_len,← ba_len]
 unfold ttW
 simp only [List.toList_toArray]
 split
 ·simp
 ·exact Nat.le_refl _
set_option maxRecDepth 20000 in
set_option maxHeartbeats 8000000 in
theorem eparse_core (S:ByteArray) (b:Int) (w:World) (hs:S.size≤2000000)
  (HC:Hid (∀ w' (x:ByteArray),Gr w w'→x.size≤S.size→Calls Tryz.prog 106 #[.string x,.string ⟨#[10]⟩] w' fun e w''=>∃ (p q:ByteArray) (f:Bool),e=.returned (.tuple #[.string p,.string q,.bool f])∧Gr w' w''∧Hid (cut x.data.toList [10]=(p.data.toList,q.data.toList,f))∧p.size≤x.size∧q.size≤x.size∧(0<x.size→q.size<x.size)))
  (HT:Hid (∀ w' (x:ByteArray),Gr w w'→Calls Tryz.prog 107 #[.string x,.string ⟨#[84,73,84,76,69,58,32]⟩] w' fun e w''=>e=.returned (.string (ttW x))∧Gr w' w''))
  (HE:Hid (∀ w' (x:ByteArray),Gr w w'→x.size≤S.size→Calls Tryz.prog 108 #[.string x,.int .i64 b] w' fun e w''=>∃ (ll:List Value) (ok:Bool),e=.returned (.tuple #[.agg ll.toArray,.bool ok])∧Gr w' w''∧∃ v:Ev,v.cells=ll∧Hid (∀ d,PeB b d x.data.toList v ok)∧v.reel.size≤x.size)) :
  Calls Tryz.prog 67 #[.string S,.int .i64 b] w fun e w'=>∃ (l:El) (lv:Value) (ok:Bool),e=.returned (.tuple #[l.val lv,.bool ok])∧Gr w w'∧ElR w' lv l∧(∀ a n c,lv=.slice a n c→n≤c)∧(∀ k,lv.ownBlock=some k→w.heap.size≤k)∧Hid ((ok=true→l.base=b∧∀ l',IsE l' b S.data.toList→l'=l)∧(ok=false→∀ l',¬ IsE l' b S.data.toList)):=by
 have hR0:=Blk.new w [.string ⟨#[]⟩,.int .i64 0,.bool false,.slice none 0 0] 24
 have hg0:Gr w (w.alloc (.cells #[.string ⟨#[]⟩,.int .i64 0,.bool false,.slice none 0 0] 24)):=(Gr.refl w).alloc _
 go_enter Tryz.func67,Tryz.ntmps67
 go_upto_region 1 with fail
 generalize w.alloc (.cells #[.string ⟨#[]⟩,.int .i64 0,.bool false,.slice none 0 0] 24)=W0 at *
 obtain⟨R,hR⟩:∃ R,w.heap.size=R:=⟨_,rfl⟩
 rw [hR] at hR0 ⊢
 replace hR:=Lib.hid hR
 have r0:=hR0.lt
 go_upto_region 2 with fail
 have hL1:=Blk.new W0 [.string ⟨#[]⟩,.int .i64 b,.bool false,.slice none 0 0] 24
 have hgA:Gr W0 (W0.alloc (.cells #[.string ⟨#[]⟩,.int .i64 b,.bool false,.slice none 0 0] 24)):=(Gr.refl W0).alloc _
 have hR1:=hR0.gr hgA
 have hg1:=hg0.trans hgA
 have hRL:R<W0.heap.size:=hR0.lt
 obtain⟨LB,hLB⟩:∃ LB,W0.heap.size=LB:=⟨_,rfl⟩
 rw [hLB] at hL1 hRL ⊢
 clear hLB hR0 hg0 hgA r0
 generalize W0.alloc (.cells #[.string ⟨#[]⟩,.int .i64 b,.bool false,.slice none 0 0] 24)=W1 at *
 go_upto_region 3 with (go_at_call 106;(with_reducible refine (HC.out _ S hg1 (Nat.le_refl _)).mono ?_);rintro e w3 ⟨p1,q1,f1,rfl,hg3,hc1,hp1,hq1,hd1⟩)
 have hL3:=hL1.gr hg3
 have hR3:=hR1.gr hg3
 have hgw3:=hg1.trans hg3
 clear hL1 hR1 hg1 hg3
 go_upto_region 4 with (go_at_call 106;(with_reducible refine (HC.out _ q1 hgw3 hq1).mono ?_);rintro e w4 ⟨p2,q2,f2,rfl,hg4,hc2,hp2,hq2,hd2⟩)
 have hL4:=hL3.gr hg4
 have hR4:=hR3.gr hg4
 have hgw4:=hgw3.trans hg4
 clear hL3 hR3 hgw3 hg4
 obtain⟨tt,htt⟩:∃ tt,ttW p1=tt:=⟨_,rfl⟩
 have htz:tt.size≤S.size:=by rw [← htt];exact Nat.le_trans (ttW_size p1) hp1
 have HT1:=Lib.hid fun w'=>HT.out w' p1
 rw [htt] at HT1
 obtain⟨B1,hB1⟩:∃ B1,(p2.toList == [70,67,77,58,32,68,82,79,80,32,70,82,65,77,69])=B1:=⟨_,rfl⟩
 have hJ0:Hid (Jp b S.data.toList tt B1 [] q2.data.toList):=Lib.hid (by
  have h:=(Jp.start hc1.out hc2.out (b:=b)).1
  have e1:decide (p2.data.toList=fcmB true)=B1:=by rw [← hB1,bl_iff];rfl
  rw [e1] at h
  have e2:(⟨(if ([84,73,84,76,69,58,32]:List UInt8).isPrefixOf p1.data.toList then p1.data.toList.drop 7 else p1.data.toList).toArray⟩:ByteArray)=tt:=htt
  rw [e2] at h
  exact h)
 have hq2S:q2.size≤S.size:=Nat.le_trans hq2 hq1
 clear hc1 hc2 hd1 hd2 hp1 hp2 HT htt hq1 hq2
 go_upto_region 5 with (go_at_call 107;(with_reducible refine (HT1.out _ hgw4).mono ?_);rintro e w5 ⟨rfl,hg5⟩;have hL5:=hL4.gr hg5;have y0:=hL5.lt;obtain⟨y1,u1⟩:=hL5.cel.2 0 _ rfl)
 have hL6:=hL5.set 0 (.string tt)
 simp only [zS,zZ] at hL6
 have hgS5:=grown_setCell w5 ⟨LB,0,none⟩ (.string tt)
 have hR6:=(hR4.gr hg5).other (p:=⟨LB,0,none⟩) (by simp;omega) (.string tt)
 have hRo:=hR.out
 have hg6:Gr w (w5.setCell ⟨LB,0,none⟩ (.string tt)):=(hgw4.trans hg5).setCell (by simp;omega) _
 clear hL4 hL5 hR4 hgw4 hg5 y0 y1 u1 hgS5 HT1
 generalize w5.setCell ⟨LB,0,none⟩ (.string tt)=W6 at *
 have y0:=hL6.lt
 obtain⟨y2,u2⟩:=hL6.cel.2 2 _ rfl
 go_wp2
 have hL7:=hL6.set 2 (.bool B1)
 simp only [zS,zZ] at hL7
 have hR7:=hR6.other (p:=⟨LB,2,none⟩) (by simp;omega) (.bool B1)
 have hg7:Gr w (W6.setCell ⟨LB,2,none⟩ (.bool B1)):=hg6.setCell (by simp;omega) _
 have hwL:w.heap.size≤LB:=by omega
 clear y0 y2 u2 hL6 hR6 hg6
 generalize W6.setCell ⟨LB,2,none⟩ (.bool B1)=W7 at *
 have hI0:PaI w LB tt b B1 (.slice none 0 0) [] W7:=⟨hg7,hL7,World.ownsRow_nil _ _ _ _,hwL⟩
 clear hL7 hg7
 go_loopw [0] (fun s wr=>∃ (rest:ByteArray) (acc:List Ev) (lv:Value),s=.string rest∧rest.size≤S.size∧PaI w LB tt b B1 lv acc wr∧Blk wr R 24 [.string ⟨#[]⟩,.int .i64 0,.bool false,.slice none 0 0]∧acc.length+rest.size≤S.size∧(∀ e∈acc,e.reel.size≤S.size)∧Hid (Jp b S.data.toList tt B1 acc rest.data.toList)) (fun s _=>match s with | .string x=>x.size | _=>0)
 case atStart=>exact⟨q2,[],_,rfl,hq2S,hI0,hR7,by simpa using hq2S,fun e he=>(by cases he),hJ0⟩
 case round=>
  obtain⟨rest,acc,lv,rfl,hrz,hI,hRr,hal,hrl,hJ⟩:=hrel
  clear hI0 hR7 hJ0 hq2S
  by_cases c:rest.size=0
  ·obtain rfl:rest=⟨#[]⟩:=by
    apply ba_ext
    exact List.eq_nil_of_length_eq_zero (by rw [ba_len];exact c)
   obtain⟨ra,rc,hlv⟩:∃ ra rc,lv=.slice ra acc.length rc:=own_len hI.row
   subst hlv
   have hend:=Jp.end hJ.out
   have hlb:=hI.lb
   have hgT:=hI.gr
   have hrow:=hI.row
   have hneR:=own_ne hrow R (by omega)
   have hcapE:=own_capE hrow
   have hacc:acc.length≤2000000:=by omega
   replace hrow:=Lib.hid hrow
   replace hend:=Lib.hid hend
   replace hrl:=Lib.hid hrl
   replace hcapE:=Lib.hid hcapE
   replace hneR:=Lib.hid hneR
   clear hI hJ HC HE
   have y0:=hlb.lt
   obtain⟨y1,u1⟩:=hlb.cel.2 0 _ rfl
   obtain⟨y2,u2⟩:=hlb.cel.2 1 _ rfl
   obtain⟨y3,u3⟩:=hlb.cel.2 2 _ rfl
   obtain⟨y4,u4⟩:=hlb.cel.2 3 _ rfl
   have r0:=hRr.lt
   obtain⟨r1,v1⟩:=hRr.cel.2 0 _ rfl
   obtain⟨r2,v2⟩:=hRr.cel.2 1 _ rfl
   obtain⟨r3,v3⟩:=hRr.cel.2 2 _ rfl
   obtain⟨r4,v4⟩:=hRr.cel.2 3 _ rfl
   go_wp2
   simp [-Bool.exists_bool,-Bool.forall_bool,bodyPost,results,Tryz.results67,go_sem,r0,r1,r2,r3,r4]
   refine⟨⟨tt,b,B1,acc⟩,.slice ra acc.length rc,_,⟨rfl,rfl⟩,?_,⟨?_,by simp only;omega,fun e he=>(by have:=hrl.out e he;omega),by simp only;omega⟩,hcapE.out,fun k hk=>(by have:=own_ge hrow.out k hk;omega),Lib.hid ⟨fun _=>⟨rfl,hend.out⟩,fun h=>by cases h⟩⟩
   ·repeat (first | (with_reducible exact hgT) | (with_reducible refine Gr.setCell ?_ (by simp;omega) _))
   ·have hq:=ownsRow_setCell_other (ownsRow_setCell_other (ownsRow_setCell_other (ownsRow_setCell_other hrow.out (a:=⟨R,0,none⟩) hneR.out (.string tt)) (a:=⟨R,1,none⟩) hneR.out (.int .i64 b)) (a:=⟨R,2,none⟩) hneR.out (.bool B1)) (a:=⟨R,3,none⟩) hneR.out (.slice ra acc.length rc)
    exact Rd.own hq
  ·have hne:rest.data.toList≠[]:=fun h=>c (by rw [← ba_len,h];rfl)
   have e1:(rest.toList == [])=false:=by rw [bl_iff];exact decide_eq_false hne
   have e2:rest.toList.isEmpty=false:=by
    cases h:rest.toList.isEmpty with
    | false=>rfl
    | true=>exact absurd (by rw [← ByteArray.toList_eq];exact List.isEmpty_iff.1 h) hne
   obtain⟨ra,rc,hlv⟩:∃ ra rc,lv=.slice ra acc.length rc:=own_len hI.row
   subst hlv
   replace hne:=Lib.hid hne
   go_upto_region 8 with (go_at_call 106;(with_reducible refine (HC.out _ rest hI.gr hrz).mono ?_);rintro e w8 ⟨ln,rs,fl,rfl,hg8,hc8,hl8,hr8,hd8⟩)
   have hI8:=hI.by hg8
   have hR8:=hRr.gr hg8
   have hd8':=hd8 (by omega)
   clear hI hRr hg8 e1 e2 hd8
   obtain⟨k8,hk8⟩:∃ k8,8=k8:=⟨_,rfl⟩
   have aE8:∀ w,(isAgg 30).run Tryz.prog w=.ok true w:=Tryz.isAgg30
   have zE8:∀ w,(Go.sizeOf 30).run Tryz.prog w=.ok k8 w:=fun w=>by rw [← hk8];exact Tryz.sizeOf30 w
   have hk80:¬ k8=0:=by omega
   replace hk8:=Lib.hid hk8
   go_upto_region 9 with (go_at_call 108;(with_reducible refine (HE.out _ ln hI8.gr ?_).mono ?_);(· omega);rintro e w9 ⟨ll,ok,rfl,hg9,x,hxl,hpe,hxz⟩;have hl8:Hid (ll.length=8):=Lib.hid (by rw [← hxl];rfl);have hl8k:ll.length=k8:=(hl8.out.trans hk8.out);have hone8:∀ v∈ll,v.oneCell'=true:=(by rw [← hxl];exact ev_one x);have st8:Sem.run Tryz.prog (storeCells ⟨w9.heap.size,0,none⟩ ll 0) (w9.alloc (.cells #[.int .i64 0,.int .i64 0,.int .i64 0,.string ⟨#[]⟩,.int .i64 0,.int .i64 0,.int .i64 0,.int .i64 0] 30))=.ok () (w9.alloc (.cells ll.toArray 30)):=st_new w9 _ _ ll (by rw [hl8.out];exact infoEvt1) (by rw [hl8.out];rfl) hone8)
   clear aE8 zE8 hk80 hl8k
   replace hl8:=hl8.out
   have hgB:Gr w8 (w9.alloc (.cells ll.toArray 30)):=hg9.alloc _
   have hbE:=Blk.new w9 ll 30
   have hI10:=hI8.by hgB
   have hR10:=hR8.gr hgB
   clear st8 hg9 hI8 hR8 hgB HE HC
   generalize w9.alloc (.cells ll.toArray 30)=W10 at *
   obtain⟨X8,hX8⟩:∃ X8,w9.heap.size=X8:=⟨_,rfl⟩
   rw [hX8] at hbE ⊢
   clear hX8
   obtain⟨hj1,hj2⟩:=Jp.step hJ.out hne.out hc8.out (hpe.out B1)
   obtain⟨L,hL⟩:∃ L,acc.length=L:=⟨_,rfl⟩
   have hgT:=hI10.gr
   have hlb:=hI10.lb
   clear hJ hpe
   have y0:=hlb.lt
   obtain⟨y1,u1⟩:=hlb.cel.2 0 _ rfl
   obtain⟨y2,u2⟩:=hlb.cel.2 1 _ rfl
   obtain⟨y3,u3⟩:=hlb.cel.2 2 _ rfl
   obtain⟨y4,u4⟩:=hlb.cel.2 3 _ rfl
   cases ok with
   | false=>
    have hNo:Hid (∀ l',¬ IsE l' b S.data.toList):=Lib.hid fun l' hl'=>by have:=(hj1 l' hl').1;cases this
    clear hj1 hj2 hlb
    clear hI10 hbE hc8
    have r0:=hR10.lt
    obtain⟨r1,v1⟩:=hR10.cel.2 0 _ rfl
    obtain⟨r2,v2⟩:=hR10.cel.2 1 _ rfl
    obtain⟨r3,v3⟩:=hR10.cel.2 2 _ rfl
    obtain⟨r4,v4⟩:=hR10.cel.2 3 _ rfl
    go_wp2
    simp [-Bool.exists_bool,-Bool.forall_bool,bodyPost,results,Tryz.results67,go_sem,r0,r1,r2,r3,r4]
    refine⟨⟨⟨#[]⟩,0,false,[]⟩,.slice none 0 0,_,⟨rfl,rfl⟩,?_,⟨EvsR.nil _,by decide,fun e he=>(by cases he),by decide⟩,fun a n c e=>(by injection e;omega),fun k hk=>(by cases hk),Lib.hid ⟨fun h=>(by cases h),fun _=>hNo.out⟩⟩
    repeat (first | (with_reducible exact hgT) | (with_reducible refine Gr.setCell ?_ (by simp;omega) _))
   | true=>
    by_cases h999:acc.length=999
    ·have q9:((acc.length:Int) == 999)=true:=by simp;omega
     have q9':(acc.length == 999)=true:=by simp [h999]
     have hNo:Hid (∀ l',¬ IsE l' b S.data.toList):=Lib.hid fun l' hl'=>by have:=(hj1 l' hl').2;omega
     clear hj1 hj2 hlb
     clear hI10 hbE hc8
     have r0:=hR10.lt
     obtain⟨r1,v1⟩:=hR10.cel.2 0 _ rfl
     obtain⟨r2,v2⟩:=hR10.cel.2 1 _ rfl
     obtain⟨r3,v3⟩:=hR10.cel.2 2 _ rfl
     obtain⟨r4,v4⟩:=hR10.cel.2 3 _ rfl
     go_wp2
     simp [-Bool.exists_bool,-Bool.forall_bool,bodyPost,results,Tryz.results67,go_sem,r0,r1,r2,r3,r4]
     refine⟨⟨⟨#[]⟩,0,false,[]⟩,.slice none 0 0,_,⟨rfl,rfl⟩,?_,⟨EvsR.nil _,by decide,fun e he=>(by cases he),by decide⟩,fun a n c e=>(by injection e;omega),fun k hk=>(by cases hk),Lib.hid ⟨fun h=>(by cases h),fun _=>hNo.out⟩⟩
     repeat (first | (with_reducible exact hgT) | (with_reducible refine Gr.setCell ?_ (by simp;omega) _))
    ·have q9:((acc.length:Int) == 999)=false:=by simp;omega
     have q9':(acc.length == 999)=false:=by simp [h999]
     clear hj1
     have hg12:=(Gr.refl W10).alloc (.cells ll.toArray 30)
     have hI12:=hI10.by hg12
     have hrow6:=hI12.row
     have hneL:=own_ne hrow6 LB (by omega)
     have hneR:=own_ne hrow6 R (by omega)
     have hR12:=hR10.gr hg12
     have hrd:=Rd.new W10 ll.toArray 30 1 8 1 (by simpa using hl8)
     have hWz:LB+1≤(W10.alloc (.cells ll.toArray 30)).heap.size:=hI12.lb.lt
     have hal2:acc.length≤2000000:=by omega
     obtain⟨ic,hic,hic0,hic1,hic2⟩:=info_parts infoEvz
     replace hneL:=Lib.hid hneL
     replace hneR:=Lib.hid hneR
     replace hj2:=Lib.hid hj2
     replace hR12:=Lib.hid hR12
     replace hrl:=Lib.hid hrl
     clear hI10 hlb hR10 hgT u1 u2 u3 u4 y1 y2 y3 hL hg12
     go_upto_region 11 with fail
     go_wp2_with (first
      | (refine wpList_load_row rfl 30 (.tmp 14) rfl X8 rfl 30 ll.toArray (0,0) _ hbE Tryz.underlying30 rfl (by rw [List.size_toArray,hl8];exact infoEvt1) ?_)
      | (refine wpList_bs1 rfl 22 30 (.tmp 61) rfl 8 (by as_aux_lemma=>kernel_rfl) (by as_aux_lemma=>kernel_rfl) (by omega) (by omega) ll hl8 rfl ?_)
      | (at_builtin;go_loud (refine wpList_append_rd rfl (.tmp 60) (.tmp 62) 22 rfl (LB+1) 30 ic (.agg #[.int .i64 0,.int .i64 0,.int .i64 0,.string ⟨#[]⟩,.int .i64 0,.int .i64 0,.int .i64 0,.int .i64 0]) 8 72 (by as_aux_lemma=>kernel_rfl) hic hic0 hic1 hic2 rfl (by decide) (.slice ra acc.length rc) acc.length (eflat acc) rfl hrow6 _ 1 ll rfl hrd hone8 ?_ ?_ ?_ ?_);(· unfold maxLen;omega);(· omega);(· exact hWz);intro v9 w9' hown9 hgrow9;obtain⟨p9,c9,rfl⟩:=own_shape hown9;have hlb9:=hI12.lb.grown hgrow9 (fun e=>hneL.out e);have x9:=hlb9.lt;obtain⟨x3,xf3⟩:=hlb9.cel.2 3 _ rfl))
     have hIp:=PaI.push hI12 x (by rw [hxl];exact hown9) hgrow9
     have hRp:=(hR12.out.grown hgrow9 (fun e=>hneR.out e)).other (p:=⟨LB,3,none⟩) (by simp;omega) (.slice p9 (acc.length+1) c9)
     replace hIp:=Lib.hid hIp
     replace hRp:=Lib.hid hRp
     go_roundw
     case rel=>exact⟨rs,acc ++ [x],_,rfl,by omega,hIp.out,hRp.out,by simp;omega,fun e he=>by
      rcases List.mem_append.1 he with he | he
      ·exact hrl.out e he
      ·rw [List.mem_singleton] at he
       rw [he]
       omega,Lib.hid hj2.out⟩
     case measure=>exact hd8'
end Go.Proofs.YtgbiodnfpbhjiaaGreatDoor

namespace Go.Proofs.YtgbiodnfpbhjiaaGreatDoor
open Go.RowKit Go.Lib
set_option linter.unusedSimpArgs false
set_option linter.unusedVariables false
def Mx (w:World):Prop:=∃ m,w.cell? ⟨0,0,none⟩=some (.int .i64 m)
theorem cell_lt {w:World} {b o:Nat} {v:Value} (h:w.cell? ⟨b,o,none⟩=some v):b<w.heap.size:=by
 unfold World.cell? at h
 cases hb:w.heap[b]? with
 | none=>simp [hb] at h
 | some x=>exact (Array.getElem?_eq_some_iff.1 hb).1
theorem Mx.gr {W w:World} (hg:Gr W w) (h:Mx W):Mx w:=by
 obtain⟨m,hm⟩:=h
 exact⟨m,(hg.cells.1 _ _ (cell_lt hm)).trans hm⟩
theorem Mx.of_shaped {w:World} (h:w.ShapedOpen Tryz.prog):Mx w:=Tryz.laysM145.s1_3 w h
theorem cutk_any (s sep:ByteArray) (w:World) (hM:Mx w) (hs:s.size<4294967281) :
  Calls Tryz.prog 106 #[.string s,.string sep] w fun e w'=>e=.returned (.tuple #[.string ⟨(cut s.data.toList sep.data.toList).1.toArray⟩,.string ⟨(cut s.data.toList sep.data.toList).2.1.toArray⟩,.bool (cut s.data.toList sep.data.toList).2.2])∧Gr w w':=by
 obtain⟨m,hm⟩:=hM
 refine (Tryz.strings_Cut s sep m w hs hm).mono ?_
 rintro e w' ⟨h,n,rfl⟩
 exact⟨h,(Gr.refl w).drewN n⟩
theorem cut_lens (s sep:List UInt8):(cut s sep).1.length≤s.length∧(cut s sep).2.1.length≤s.length∧((cut s sep).2.2=true→0<sep.length→(cut s sep).2.1.length<s.length):=by
 unfold cut
 split
 ·rename_i h
  have hr:=index_room s sep h
  simp only [List.length_take,List.length_drop]
  refine⟨by omega,by omega,fun _ h2=>by omega⟩
 ·simp
theorem splitB_size (sep:ByteArray):∀ (k:Nat) (s:ByteArray),∀ x∈splitB sep 0 k s,x.size≤s.size
 | 0,s,x,h=>by
  rw [splitB_zero,List.mem_singleton] at h
  rw [h]
  exact Nat.le_refl _
 | k+1,s,x,h=>by
  rcases indexB_cases s sep with hi | ⟨i,hi,hr⟩
  ·rw [splitB_miss _ _ _ _ hi,List.mem_singleton] at h
   rw [h]
   exact Nat.le_refl _
  ·rw [splitB_hit _ _ _ _ i hi] at h
   rcases List.mem_cons.1 h with rfl | h
   ·rw [ByteArray.size_extract]
    omega
   ·have:=splitB_size sep k _ x h
    rw [ByteArray.size_extract] at this
    omega
theorem split_any (S:ByteArray) (hs:S.size<4294967281):∃ ws:List ByteArray,(split S.data.toList [32]).map toBa=ws∧ws.length≤S.size+1∧(∀ x∈ws,x.size≤S.size) ∧
  ∀ w,Mx w→Calls Tryz.prog 140 #[.string S,.string ⟨#[32]⟩] w fun e w'=>∃ B,e=.returned (.slice (some ⟨B,0,none⟩) ws.length ws.length)∧Gr w w'∧B<w'.heap.size∧∀ (j:Nat) (u:ByteArray),ws[j]?=some u→w'.cell? ⟨B,j,none⟩=some (.string u):=by
 have hl:=splitB_all ⟨#[32]⟩ (by decide) 0 _ S rfl
 refine⟨splitB ⟨#[32]⟩ 0 (countB S ⟨#[32]⟩) S,?_,?_,splitB_size _ _ _,fun w hM=>?_⟩
 ·have hd:=splitB_data ⟨#[32]⟩ 0 (countB S ⟨#[32]⟩) S
  unfold split
  have:count S.data.toList [32]=countB S ⟨#[32]⟩:=rfl
  rw [this]
  have e:([32]:List UInt8)=(⟨#[32]⟩:ByteArray).data.toList:=rfl
  rw [e,← hd,List.map_map]
  refine (List.map_congr_left fun x _=>?_).trans (List.map_id _)
  exact toBa_of x
 ·have:=countB_le ⟨#[32]⟩ (by decide) S.size S (Nat.le_refl _)
  omega
 ·obtain⟨m,hm⟩:=hM
  refine (Tryz.strings_Split S ⟨#[32]⟩ m w hs hm (by decide)).mono ?_
  rintro e w' ⟨rfl,rfl⟩
  refine⟨w.heap.size,by rw [hl],(Gr.refl w).alloc _,by simp,fun j u hu=>?_⟩
  have hk:=Cel.new w ((splitB ⟨#[32]⟩ 0 (countB S ⟨#[32]⟩) S).map Value.string).toArray 9
  exact (hk.2 j (.string u) (by simp [List.getElem?_map,hu])).1
theorem cutW_any (x:ByteArray) (w:World) (hM:Mx w) (hs:x.size<4294967281) :
  Calls Tryz.prog 106 #[.string x,.string ⟨#[10]⟩] w fun e w''=>∃ (p q:ByteArray) (f:Bool),e=.returned (.tuple #[.string p,.string q,.bool f])∧Gr w w''∧Hid (cut x.data.toList [10]=(p.data.toList,q.data.toList,f))∧p.size≤x.size∧q.size≤x.size∧(0<x.size→q.size<x.size):=by
 refine (cutk_any x ⟨#[10]⟩ w hM hs).mono ?_
 rintro e w' ⟨rfl,hg⟩
 have e10:(⟨#[10]⟩:ByteArray).data.toList=[10]:=rfl
 rw [e10]
 obtain⟨h1,h2,h3⟩:=cut_lens x.data.toList [10]
 rw [ba_len] at h1 h2 h3
 refine⟨_,_,_,rfl,hg,Lib.hid (by simp),?_,?_,fun h0=>?_⟩
 ·rw [← ba_len];simpa using h1
 ·rw [← ba_len];simpa using h2
 ·have:(cut x.data.toList [10]).2.1.length<x.size:=by
   cases hf:(cut x.data.toList [10]).2.2 with
   | true=>exact h3 hf (by decide)
   | false=>
    have:(cut x.data.toList [10]).2.1=[]:=by
     unfold cut at hf ⊢
     split
     ·rename_i hh;rw [if_pos hh] at hf;cases hf
     ·rfl
    rw [this]
    exact h0
  rw [← ba_len];simpa using this
theorem trimW_any (x:ByteArray) (w:World) :
  Calls Tryz.prog 107 #[.string x,.string ⟨#[84,73,84,76,69,58,32]⟩] w fun e w''=>e=.returned (.string (ttW x))∧Gr w w'':=by
 refine (Tryz.strings_TrimPrefix x ⟨#[84,73,84,76,69,58,32]⟩ w).mono ?_
 rintro e w' ⟨rfl,rfl⟩
 exact⟨rfl,Gr.refl _⟩
end Go.Proofs.YtgbiodnfpbhjiaaGreatDoor
