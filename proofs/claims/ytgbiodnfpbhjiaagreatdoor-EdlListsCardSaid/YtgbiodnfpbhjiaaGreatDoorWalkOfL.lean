/-
  What the loop of Of of package edl has in memory.
  Conditions: none.
-/
import Derived.Test.YtgbiodnfpbhjiaaGreatDoorWalkOfC
namespace Go.Proofs.YtgbiodnfpbhjiaaGreatDoor
open Go.RowKit Go.Lib
set_option linter.unusedSimpArgs false
set_option linter.unusedVariables false
def Ab (acc:List Ev) (n:Int):Prop:=∀ x∈acc,0≤x.f∧x.f≤x.t∧x.t≤n∧-4611686018427387904≤x.o∧x.o≤4611686018427387904+x.t∧x.reel.size≤140737488355328
structure OfI (w Wn:World) (title:ByteArray) (base:Int) (drop:Bool) (lv:Value) (acc:List Ev) (wr:World):Prop where
 kp:Kp Wn w.heap.size wr
 gr:Gr w wr
 lb:Blk wr w.heap.size 24 [.string title,.int .i64 base,.bool drop,lv]
 eb:Blk wr (w.heap.size+1) 36 [.int .i64 0]
 row:wr.ownsRow Wn.heap.size 30 8 lv acc.length (eflat acc.reverse)
theorem row_gr {wr wx:World} {base size n:Nat} {e:TypeId} {v:Value} {xs:List Value} (h:wr.ownsRow base e size v n xs) (hg:Gr wr wx):wx.ownsRow base e size v n xs:=by
 obtain⟨hl,h0⟩:=h
 refine⟨hl,?_⟩
 rcases h0 with h0 | ⟨g,cap,cur,e1,e2,e3,r⟩
 ·exact .inl h0
 ·refine .inr ⟨g,cap,cur,e1,e2,?_,r⟩
  rw [hg.by0.block g (Array.getElem?_eq_some_iff.1 e3).1 (fun e=>by cases e)]
  exact e3
theorem OfI.by {w Wn:World} {title:ByteArray} {base:Int} {drop:Bool} {lv:Value} {acc:List Ev} {wr wx:World} (h:OfI w Wn title base drop lv acc wr) (hg:Gr wr wx):OfI w Wn title base drop lv acc wx:=
 ⟨h.kp.gr hg,h.gr.trans hg,h.lb.gr hg,h.eb.gr hg,row_gr h.row hg⟩
theorem ofS_zero (acc:List Ev) (n:Int) {c:Cl} (h:c.kind=0):ofS acc n c=some acc:=by
 unfold ofS
 rw [if_pos h]
theorem ofS_some {acc:List Ev} {n:Int} {c:Cl} (h:c.kind≠0) {x:Ev} {r:List Ev} (ha:acc=x :: r) (hx:x.t=n∧cntE x c=true):ofS acc n c=some (extE x c.len :: r):=by
 subst ha
 unfold ofS
 rw [if_neg h]
 exact if_pos hx
theorem ofS_else {acc:List Ev} {n:Int} {c:Cl} (h:c.kind≠0) (hx:∀ x r,acc=x :: r→¬ (x.t=n∧cntE x c=true)):ofS acc n c=(evO c (bfR acc n) n).map (fun e=>e :: acc):=by
 unfold ofS
 rw [if_neg h]
 cases acc with
 | nil=>rfl
 | cons x r=>exact if_neg (hx x r rfl)
theorem evs_own {wr:World} {base:Nat} {lv:Value} {acc:List Ev} (h:wr.ownsRow base 30 8 lv acc.length (eflat acc.reverse)):EvsR wr lv acc.reverse:=by
 have:=Rd.own h
 unfold EvsR
 rwa [List.length_reverse]
theorem own_capE {wr:World} {base size n:Nat} {e:TypeId} {lv:Value} {xs:List Value} (h:wr.ownsRow base e size lv n xs):∀ a m c,lv=.slice a m c→m≤c:=by
 obtain⟨_,⟨rfl,h0⟩ | ⟨g,cap,cur,rfl,_,_,hc,_⟩⟩:=h
 ·intro a m c e
  injection e with e1 e2 e3
  omega
 ·intro a m c e
  injection e with e1 e2 e3
  omega
theorem own_ne {wr:World} {base size n:Nat} {e:TypeId} {lv:Value} {xs:List Value} (h:wr.ownsRow base e size lv n xs):∀ b,b<base→lv.ownBlock≠some b:=by
 obtain⟨_,⟨rfl,h0⟩ | ⟨g,cap,cur,rfl,hg,_⟩⟩:=h
 ·intro b hb e
  simp [Value.ownBlock] at e
 ·intro b hb e
  simp [Value.ownBlock] at e
  omega
theorem own_len {wr:World} {base size n:Nat} {e:TypeId} {lv:Value} {xs:List Value} (h:wr.ownsRow base e size lv n xs):∃ a c,lv=.slice a n c:=by
 obtain⟨_,⟨rfl,h0⟩ | ⟨g,cap,cur,rfl,_⟩⟩:=h
 ·exact⟨none,0,by rw [h0]⟩
 ·exact⟨_,_,rfl⟩
theorem own_slice {wr:World} {base size n:Nat} {e:TypeId} {lv:Value} {xs:List Value} (h:wr.ownsRow base e size lv n xs):∃ a m c,lv=.slice a m c:=by
 obtain⟨_,⟨rfl,h0⟩ | ⟨g,cap,cur,rfl,_⟩⟩:=h
 ·exact⟨_,_,_,rfl⟩
 ·exact⟨_,_,_,rfl⟩
theorem Kp.grow {W:World} {L:Nat} {wr wx:World} {row:Option Nat} (h:Kp W L wr) (hg:wr.grownBy wx row) (hb:∀ k,row=some k→W.heap.size≤k):Kp W L wx:=by
 refine⟨Nat.le_trans h.sz hg.size,fun b o hb2 hn=>?_⟩
 rw [← h.at_ b o hb2 hn]
 exact World.cell?_of_block (a:=⟨b,o,none⟩) (hg.block b (Nat.lt_of_lt_of_le hb2 h.sz) (by intro e;have:=hb b e.symm;omega))
theorem OfI.ext {w Wn:World} {title:ByteArray} {base:Int} {drop:Bool} {g cap:Nat} {x:Ev} {r:List Ev} {wr:World} (h:OfI w Wn title base drop (.slice (some ⟨g,0,none⟩) (r.length+1) cap) (x :: r) wr) (hW:w.heap.size+2≤Wn.heap.size) (j:Nat) (hj:j<8) (u:Value) (e':Ev) (hc:e'.cells=x.cells.set j u) :
  OfI w Wn title base drop (.slice (some ⟨g,0,none⟩) (r.length+1) cap) (e' :: r) (wr.setCell ⟨g,r.length * 8+j,none⟩ u):=by
 have hge:Wn.heap.size≤g:=by
  have:=own_ge h.row g rfl
  exact this
 have hl:(x :: r).reverse.length=r.length+1:=by simp
 have hl':(e' :: r).reverse.length=r.length+1:=by simp
 have hrow:wr.ownsRow Wn.heap.size 30 8 (.slice (some ⟨g,0,none⟩) (x :: r).reverse.length cap) (x :: r).reverse.length (eflat (x :: r).reverse):=by rw [hl];exact h.row
 have hi:r.length<(x :: r).reverse.length:=by rw [hl];omega
 have hx:(x :: r).reverse[r.length]=x:=by simp
 obtain⟨k1,k2⟩:=row_set hrow r.length hi j hj u e' (by rw [hx];exact hc)
 have hs:(x :: r).reverse.set r.length e'=(e' :: r).reverse:=by
  rw [List.reverse_cons,List.reverse_cons,List.set_append_right _ _ (by simp)]
  simp
 rw [hs,hl'] at k1
 exact⟨h.kp.grow k2 (fun k hk=>by injection hk with hk;omega),h.gr.grown k2 (fun k hk=>by injection hk with hk;omega),h.lb.grown k2 (fun e=>by injection e with e;omega),h.eb.grown k2 (fun e=>by injection e with e;omega),k1⟩
theorem OfI.push {w Wn:World} {title:ByteArray} {base:Int} {drop:Bool} {lv v9:Value} {acc:List Ev} {wr w9:World} (h:OfI w Wn title base drop lv acc wr) (hW:w.heap.size+2≤Wn.heap.size) (e:Ev)
  (hown:w9.ownsRow Wn.heap.size 30 8 v9 (acc.length+1) (eflat acc.reverse ++ e.cells)) (hg:wr.grownBy w9 lv.ownBlock):OfI w Wn title base drop v9 (e :: acc) (w9.setCell ⟨w.heap.size,3,none⟩ v9):=by
 have hge:=own_ge h.row
 have hge9:=own_ge hown
 have hgS:=grown_setCell w9 ⟨w.heap.size,3,none⟩ v9
 have hne9:v9.ownBlock≠some w.heap.size:=fun h=>by have:=hge9 _ h;omega
 have hlb:=(h.lb.grown hg (fun e=>by have:=hge _ e;omega)).set 3 v9
 simp only [zS,zZ] at hlb
 refine⟨(h.kp.grow hg hge).put v9,(h.gr.grown hg (fun k hk=>by have:=hge _ hk;omega)).grown hgS (fun k hk=>by injection hk with hk;simp at hk;omega),hlb,(h.eb.grown hg (fun e=>by have:=hge _ e;omega)).other (by simp) v9,?_⟩
 have:=World.ownsRow.kept hown hgS (.inr hne9)
 rw [List.reverse_cons,eflat_append,List.length_cons]
 have hone:eflat [e]=e.cells:=by rw [eflat_cons];exact List.append_nil _
 rw [hone]
 exact this
theorem an_bnd {s:Sr} (h:vSr s):-4611686018427387904≤s.an∧s.an≤4611686018427387904:=by
 rcases h with rfl | h
 ·decide
 ·have h1:=h.a2
  have h2:=h.a1
  omega
theorem relN_sz {s:Sr} (h:vSr s):(relN s).size≤140737488355328:=by
 unfold relN
 split
 ·decide
 ·rcases h with rfl | h
  ·decide
  ·have:=nm_size h.nm
   omega
theorem mkE_ab {k p fr:Int} {s:Sr} {n len:Int} (h:vSr s) (h0:0≤n) (hl:1≤len):-4611686018427387904≤(mkE k p fr s n len).o∧(mkE k p fr s n len).o≤4611686018427387904+(n+len):=by
 have h1:=an_bnd h
 unfold mkE relI
 simp only
 split
 ·omega
 ·split <;> omega
theorem evO_ab {c:Cl} {bf:Sr} {n:Int} {e:Ev} (hc:VC c) (h:evO c bf n=some e) (h0:0≤n):e.f=n∧e.t=n+c.len∧-4611686018427387904≤e.o∧e.o≤4611686018427387904+e.t∧e.reel.size≤140737488355328:=by
 obtain⟨i1,i2,i3,i4⟩:=evO_ie hc h
 refine⟨i2,i3,?_⟩
 rw [i3]
 have hl:=hc.len.1
 unfold evO at h
 split at h
 ·split at h
  ·injection h with h
   subst h
   exact⟨(mkE_ab hc.a h0 hl).1,(mkE_ab hc.a h0 hl).2,relN_sz hc.a⟩
  ·cases h
 ·split at h
  ·split at h
   ·split at h
    ·injection h with h
     subst h
     exact⟨(mkE_ab hc.b h0 hl).1,(mkE_ab hc.b h0 hl).2,relN_sz hc.b⟩
    ·cases h
   ·cases h
  ·cases h
theorem Ab.ext {x:Ev} {r:List Ev} {n ln:Int} (h:Ab (x :: r) n) (hl:0≤ln) (ht:x.t=n):Ab (extE x ln :: r) (n+ln):=by
 intro y hy
 rcases List.mem_cons.1 hy with rfl | hy
 ·have hx:=h x List.mem_cons_self
  unfold extE
  simp only
  refine⟨hx.1,by omega,by omega,?_,?_,hx.2.2.2.2.2⟩
  ·split <;> omega
  ·split <;> omega
 ·have hx:=h y (List.mem_cons_of_mem _ hy)
  omega
theorem Ab.push {e:Ev} {r:List Ev} {n ln:Int} {c:Cl} {bf:Sr} (h:Ab r n) (hc:VC c) (hl:c.len=ln) (he:evO c bf n=some e) (h0:0≤n):Ab (e :: r) (n+ln):=by
 obtain⟨e1,e2,e3,e4,e5⟩:=evO_ab hc he h0
 have:=hc.len.1
 intro y hy
 rcases List.mem_cons.1 hy with rfl | hy
 ·omega
 ·have hx:=h y hy
  omega
theorem OfI.last {w Wn:World} {title:ByteArray} {base:Int} {drop:Bool} {lv:Value} {x:Ev} {r:List Ev} {wr:World} (h:OfI w Wn title base drop lv (x :: r) wr) :
  ∃ g cap,lv=.slice (some ⟨g,0,none⟩) (r.length+1) cap∧g<wr.heap.size∧Wn.heap.size≤g∧(∀ (j:Nat) (u:Value),x.cells[j]?=some u→wr.cell? ⟨g,r.length * 8+j,none⟩=some u)∧∀ j,wr.frozen? ⟨g,j,none⟩=false:=by
 have hr:=h.row
 have hl:(x :: r).reverse.length=r.length+1:=by simp
 rcases hr.2 with ⟨e1,e2⟩ | ⟨g,cap,cur,e1,_⟩
 ·simp at e2
 ·rw [e1] at hr
  obtain⟨h1,h2⟩:=hr.lt g rfl
  refine⟨g,cap,e1,h2,h1,fun j u hu=>?_,hr.frozenAt⟩
  have hj:j<8:=(List.getElem?_eq_some_iff.1 hu).1
  rw [hr.cellAt _ (by simp only [List.length_cons];omega)]
  have hi:r.length<(x :: r).reverse.length:=by rw [hl];omega
  rw [eflat_at (x :: r).reverse r.length hi j hj]
  simpa using hu
theorem infoEvz:(Tryz.prog.info? 30).map (fun i=>(i.zero,i.size,i.bytes))=some (some (.agg #[.int .i64 0,.int .i64 0,.int .i64 0,.string ⟨#[]⟩,.int .i64 0,.int .i64 0,.int .i64 0,.int .i64 0]),8,72):=by kernel_rfl
theorem infoEvt1:(Tryz.prog.info? 30).map (·.size)=some 8:=by kernel_rfl
theorem ev_one (x:Ev):∀ v∈x.cells,v.oneCell'=true:=by
 intro v hm
 unfold Ev.cells at hm
 simp only [List.mem_cons,List.not_mem_nil,or_false] at hm
 rcases hm with rfl | rfl | rfl | rfl | rfl | rfl | rfl | rfl <;> rfl
end Go.Proofs.YtgbiodnfpbhjiaaGreatDoor
