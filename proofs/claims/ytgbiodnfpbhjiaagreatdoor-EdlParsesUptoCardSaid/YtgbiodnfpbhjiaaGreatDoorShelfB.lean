/-
  Plain law of edit lists: events that continue the one before them may be joined to it; the clips of a list without such events are packed.
  Conditions: none.
-/
import Derived.Test.YtgbiodnfpbhjiaaGreatDoorMathCa
import Derived.Test.YtgbiodnfpbhjiaaGreatDoorWalkTm
import Derived.Test.YtgbiodnfpbhjiaaGreatDoorWalkEg
import Derived.Test.YtgbiodnfpbhjiaaGreatDoorKit
import Derived.Deep.DeepCutAuto
import Derived.Test.YtgbiodnfpbhjiaaGreatDoorWalkFx
import Derived.Test.YtgbiodnfpbhjiaaGreatDoorWalkEh
import Derived.Test.YtgbiodnfpbhjiaaGreatDoorWalkEx
import Derived.Test.YtgbiodnfpbhjiaaGreatDoorShelf
import Derived.Shelf.LaysM
import Derived.Shelf.LaysC
import Derived.Shelf.Strings.Prefix
import Derived.Shelf.Strings.Split
namespace Go.Proofs.YtgbiodnfpbhjiaaGreatDoor
set_option linter.unusedVariables false
set_option linter.unusedSimpArgs false
def joinsE (x e:Ev):Bool:=decide (e.k=0∧e.f=x.t∧plS e.reel e.i=plS x.reel x.o)
def joinE (x e:Ev):Ev:=⟨x.k,x.p,x.fr,x.reel,x.i,e.o,x.f,e.t⟩
theorem plS_eq {r r':ByteArray} {a a':Int} (h:plS r a=plS r' a'):(r.size=0∧r'.size=0)∨(r.size≠0∧r'.size≠0∧r=r'∧a=a'):=by
 unfold plS at h
 split at h
 ·rename_i h1
  split at h
  ·rename_i h2
   exact .inl ⟨h1,h2⟩
  ·have:=congrArg Sr.k h;simp [blkS] at this
 ·rename_i h1
  split at h
  ·have:=congrArg Sr.k h;simp [blkS] at this
  ·rename_i h2
   exact .inr ⟨h1,h2,(congrArg Sr.nm h :),(congrArg Sr.an h :)⟩
theorem plS_zero {r:ByteArray} (h:r.size=0) (a:Int):plS r a=blkS:=by unfold plS;rw [if_pos h]
theorem VE.join {x e:Ev} {n day:Int} (hx:VE x n day) (he:VE e x.t day) (hj:joinsE x e=true):VE (joinE x e) n day∧(∀ o,plS e.reel o=plS x.reel o):=by
 unfold joinsE at hj
 rw [decide_eq_true_eq] at hj
 obtain⟨j1,j2,j3⟩:=hj
 have e2:=he.ft
 have e3:=he.d
 have x1:=hx.l
 have x2:=hx.ft
 have x4:=hx.fr
 rcases plS_eq j3 with ⟨p1,p2⟩ | ⟨p1,p2,p3,p4⟩
 ·have hr:x.i=0∧e.o=0:=by
   rcases hx.rl with h | h
   ·rcases he.rl with h' | h'
    ·exact⟨h.2.1,h'.2.2⟩
    ·exact absurd p1 h'.1
   ·exact absurd p2 h.1
  exact⟨⟨hx.kd,x1,by show x.f<e.t;omega,e3,by show x.fr≤e.t - x.f;omega,.inl ⟨p2,hr.1,hr.2⟩⟩,fun o=>by rw [plS_zero p1,plS_zero p2]⟩
 ·have hr:nmB x.reel=true∧0≤x.i∧x.i<day∧x.o=x.i+(x.t - x.f)∧e.o=e.i+(e.t - e.f)∧e.o<day:=by
   rcases hx.rl with h | h
   ·exact absurd h.1 p2
   ·rcases he.rl with h' | h'
    ·exact absurd h'.1 p1
    ·exact⟨h.2.1,h.2.2.1,h.2.2.2.1,h.2.2.2.2.1,h'.2.2.2.2.1,h'.2.2.2.2.2⟩
  exact⟨⟨hx.kd,x1,by show x.f<e.t;omega,e3,by show x.fr≤e.t - x.f;omega,.inr ⟨p2,hr.1,hr.2.1,hr.2.2.1,by show e.o=x.i+(e.t - x.f);omega,hr.2.2.2.2.2⟩⟩,fun o=>by rw [p3]⟩
theorem evR_pos {e:Ev} (h:0<e.t - e.f - e.fr):evR e=[cutC (e.t - e.f - e.fr) (plS e.reel (e.i+e.fr))]:=by unfold evR;rw [if_neg (by omega)]
theorem evR_zero {e:Ev} (h:e.t - e.f - e.fr≤0):evR e=[]:=by unfold evR;rw [if_pos h]
def relB (s:Sr):Bool:=decide (s.k=0) || decide (s=plS s.nm s.an)
def relN (s:Sr):ByteArray:=if s.k=0 then noTx else s.nm
def relI (s:Sr):Int:=if s.k=0 then 0 else s.an
def mkE (k p fr:Int) (s:Sr) (n len:Int):Ev:=⟨k,p,fr,relN s,relI s,if (relN s).size=0 then 0 else relI s+len,n,n+len⟩
def okC (c:Cl):Bool:=decide (c.gain=0∧c.ch=[])
def evO (c:Cl) (bf:Sr) (n:Int):Option Ev:=
 if c.kind=1 then (if relB c.a && okC c then some (mkE 0 0 0 c.a n c.len) else none)
 else if c.kind=2∨c.kind=3 then (if c.off=0∧c.tot=c.len∧c.a=bf then (if relB c.b && okC c then some (mkE (c.kind - 1) c.par c.len c.b n c.len) else none) else none)
 else none
structure IE (x:Ev):Prop where
 kd:(x.k=0∧x.fr=0)∨((x.k=1∨x.k=2)∧1≤x.fr)
 ft:x.f<x.t
 fr:x.fr≤x.t - x.f
 io:(x.reel.size=0∧x.i=0∧x.o=0)∨(x.reel.size≠0∧x.o=x.i+(x.t - x.f))
theorem relB_pl {s:Sr} (hv:vSr s) (h:relB s=true):s=plS (relN s) (relI s):=by
 unfold relB at h
 rw [Bool.or_eq_true,decide_eq_true_eq,decide_eq_true_eq] at h
 rcases hv with rfl | hv
 ·rfl
 ·have hk:s.k≠0:=by have:=hv.k;omega
  rcases h with h | h
  ·exact absurd h hk
  ·unfold relN relI
   rw [if_neg hk,if_neg hk]
   exact h
theorem mkE_io (k p fr:Int) (s:Sr) (n len:Int):((mkE k p fr s n len).reel.size=0∧(mkE k p fr s n len).o=0)∨((mkE k p fr s n len).reel.size≠0∧(mkE k p fr s n len).o=(mkE k p fr s n len).i+len):=by
 unfold mkE
 simp only
 split
 ·rename_i h;exact .inl ⟨h,rfl⟩
 ·rename_i h;exact .inr ⟨h,rfl⟩
theorem nm_size {s:ByteArray} (h:nmB s=true):1≤s.size∧s.size≤32:=by
 unfold nmB at h
 rw [Bool.and_eq_true,Bool.and_eq_true,decide_eq_true_eq,decide_eq_true_eq] at h
 exact h.1
theorem rel_zero {s:Sr} (hv:vSr s) (h:(relN s).size=0):relI s=0:=by
 unfold relN at h
 unfold relI
 split at h
 ·rename_i hk;rw [if_pos hk]
 ·rename_i hk
  rcases hv with rfl | hv
  ·exact absurd rfl hk
  ·have:=nm_size hv.nm;omega
theorem evO_ie {c:Cl} {bf:Sr} {n:Int} {e:Ev} (hc:VC c) (h:evO c bf n=some e):IE e∧e.f=n∧e.t=n+c.len∧evC bf e=[c]:=by
 have hl:=hc.len
 unfold evO at h
 split at h
 ·rename_i hk
  split at h
  ·rename_i hr
   injection h with h
   rw [Bool.and_eq_true] at hr
   have hg:c.gain=0∧c.ch=[]:=of_decide_eq_true hr.2
   have hp:=relB_pl hc.a hr.1
   subst h
   refine⟨⟨.inl ⟨rfl,rfl⟩,by show n<n+c.len;omega,by show 0≤n+c.len - n;omega,?_⟩,rfl,rfl,?_⟩
   ·rcases mkE_io 0 0 0 c.a n c.len with ⟨h1,h2⟩ | ⟨h1,h2⟩
    ·exact .inl ⟨h1,rel_zero hc.a h1,h2⟩
    ·exact .inr ⟨h1,by rw [h2];show _=_+(n+c.len - n);omega⟩
   ·unfold evC evM
    rw [if_pos (by show (0:Int)≤0;omega),evR_pos (by show 0<n+c.len - n - 0;omega)]
    have hkd:=hc.kd
    obtain⟨len,kind,a,b,off,tt,par,tx,gain,ch⟩:=c
    simp only at hk hkd hg hp ⊢
    have hkd:b=blkS∧off=0∧tt=0∧par=0∧tx=noTx:=by
     rcases hkd with h | h | h | h | h | h
     ·have:=h.1;simp only at this;omega
     ·exact h.2
     all_goals (have:=h.1;simp only at this;omega)
    obtain⟨x1,x2,x3,x4,x5⟩:=hkd
    obtain⟨x6,x7⟩:=hg
    subst x1 x2 x3 x4 x5 x6 x7 hk
    unfold cutC mkE
    simp only [List.nil_append,List.cons.injEq,Cl.mk.injEq,and_true,true_and]
    refine⟨by omega,?_⟩
    rw [Int.add_zero]
    exact hp.symm
  ·cases h
 ·rename_i hk1
  split at h
  ·rename_i hk
   split at h
   ·rename_i ho
    split at h
    ·rename_i hr
     injection h with h
     rw [Bool.and_eq_true] at hr
     have hg:c.gain=0∧c.ch=[]:=of_decide_eq_true hr.2
     have hp:=relB_pl hc.b hr.1
     subst h
     refine⟨⟨.inr ⟨by show c.kind - 1=1∨c.kind - 1=2;omega,hl.1⟩,by show n<n+c.len;omega,by show c.len≤n+c.len - n;omega,?_⟩,rfl,rfl,?_⟩
     ·rcases mkE_io (c.kind - 1) c.par c.len c.b n c.len with ⟨h1,h2⟩ | ⟨h1,h2⟩
      ·exact .inl ⟨h1,rel_zero hc.b h1,h2⟩
      ·exact .inr ⟨h1,by rw [h2];show _=_+(n+c.len - n);omega⟩
     ·unfold evC evM
      rw [if_neg (by show ¬ c.len≤0;omega),evR_zero (by show n+c.len - n - c.len≤0;omega)]
      have hkd:=hc.kd
      obtain⟨len,kind,a,b,off,tt,par,tx,gain,ch⟩:=c
      simp only at hk hk1 hkd hg hp ho ⊢
      have hkt:tx=noTx:=by
       rcases hkd with h | h | h | h | h | h
       ·have:=h.1;simp only at this;omega
       ·have:=h.1;simp only at this;omega
       ·exact h.2.2.2
       ·exact h.2.2.2
       ·have:=h.1;simp only at this;omega
       ·have:=h.1;simp only at this;omega
      obtain⟨x6,x7⟩:=hg
      obtain⟨x1,x2,x3⟩:=ho
      subst x1 x2 x3 x6 x7 hkt
      unfold mixC mkE
      simp only [List.append_nil,List.cons.injEq,Cl.mk.injEq,and_true,true_and]
      exact⟨by omega,hp.symm⟩
    ·cases h
   ·cases h
  ·cases h
theorem VE.io {e:Ev} {n day:Int} (h:VE e n day):(e.reel.size=0→e.i=0)∧e.o=if e.reel.size=0 then 0 else e.i+(e.t - e.f):=by
 rcases h.rl with h | h
 ·exact⟨fun _=>h.2.1,by rw [if_pos h.1];exact h.2.2⟩
 ·exact⟨fun h'=>absurd h' h.1,by rw [if_neg h.1];exact h.2.2.2.2.1⟩
end Go.Proofs.YtgbiodnfpbhjiaaGreatDoor

namespace Go.Proofs.YtgbiodnfpbhjiaaGreatDoor
open Go.RowKit Go.Lib
set_option linter.unusedSimpArgs false
set_option linter.unusedVariables false
theorem Rd.put {w:World} {v:Value} {n size g o':Nat} {xs:List Value} {old u:Value} (h:Rd w v n size xs) (hp:w.cell? ⟨g,o',none⟩=some old) (hne:old=u∨∀ x∈xs,x≠old):Rd (w.setCell ⟨g,o',none⟩ u) v n size xs:=by
 obtain⟨hl,a,cap,rfl,h0⟩:=h
 refine⟨hl,a,cap,rfl,?_⟩
 rcases h0 with h0 | ⟨b,o,rfl,hb,hc⟩
 ·exact .inl h0
 ·refine .inr ⟨b,o,rfl,by simpa using hb,fun j u' hu=>?_⟩
  have h1:=hc j u' hu
  by_cases e:(⟨g,o',none⟩:Addr)=⟨b,o+j,none⟩
  ·rw [← e] at h1 ⊢
   rw [World.cell?_setCell_same (h:=hp)]
   rw [hp] at h1
   injection h1 with h1
   rcases hne with h2 | h2
   ·rw [← h2,h1]
   ·exact absurd h1.symm (h2 u' (List.mem_of_getElem? hu))
  ·rw [World.cell?_setCell_other (h:=e)]
   exact h1
theorem Rd.off {w:World} {v:Value} {n size:Nat} {xs:List Value} {p:Addr} (h:Rd w v n size xs) (hv:v.ownBlock≠some p.block) (u:Value):Rd (w.setCell p u) v n size xs:=by
 obtain⟨hl,a,cap,rfl,h0⟩:=h
 refine⟨hl,a,cap,rfl,?_⟩
 rcases h0 with h0 | ⟨b,o,rfl,hb,hc⟩
 ·exact .inl h0
 ·refine .inr ⟨b,o,rfl,by simpa using hb,fun j u' hu=>?_⟩
  rw [World.cell?_setCell_other (h:=fun e=>hv (by rw [e];rfl))]
  exact hc j u' hu
theorem TrR.put {w:World} {v:Value} {cs:List CM} {g o':Nat} {old u:Value} (h:TrR w v cs) (hv:v.ownBlock≠some g) (hp:w.cell? ⟨g,o',none⟩=some old) (hne:old=u∨∀ x:Int,Value.int .i64 x≠old):TrR (w.setCell ⟨g,o',none⟩ u) v cs:=
 ⟨h.rd.off hv u,fun c hc=>Rd.put (h.ch c hc) hp (hne.imp id fun h1 x hx=>by
  unfold intsV at hx
  obtain⟨y,_,rfl⟩:=List.mem_map.1 hx
  exact h1 y)⟩
theorem Ev.one (e:Ev):∀ v∈e.cells,v.oneCell'=true:=fun v hv=>by
 unfold Ev.cells at hv
 simp only [List.mem_cons,List.not_mem_nil,or_false] at hv
 rcases hv with rfl | rfl | rfl | rfl | rfl | rfl | rfl | rfl <;> rfl
def cm0 (c:Cl):CM:=⟨c,.slice none 0 0⟩
theorem EvsR.take {w:World} {b o cap:Nat} {es:List Ev} (i:Nat) (hi:i≤es.length) (h:EvsR w (.slice (some ⟨b,o,none⟩) es.length cap) es):EvsR w (.slice (some ⟨b,o,none⟩) i cap) (es.take i):=by
 obtain⟨_,a,c,h2,h3⟩:=h
 injection h2 with h4 h5 h6
 subst h4
 have hl:(es.take i).length=i:=by simp;omega
 unfold EvsR
 rw [hl]
 refine⟨by rw [eflat_length,hl],_,cap,rfl,?_⟩
 rcases h3 with ⟨h8,_⟩ | ⟨b',o',h7,hb,hc⟩
 ·exact .inl ⟨by omega,fun h=>by cases h⟩
 ·obtain⟨rfl,rfl⟩:b=b'∧o=o':=by simpa using h7
  refine .inr ⟨_,_,rfl,hb,fun j u hu=>hc j u ?_⟩
  have:eflat es=eflat (es.take i) ++ eflat (es.drop i):=by rw [← eflat_append,List.take_append_drop]
  rw [this,List.getElem?_append_left (List.getElem?_eq_some_iff.1 hu).1]
  exact hu
end Go.Proofs.YtgbiodnfpbhjiaaGreatDoor

namespace Go.Proofs.YtgbiodnfpbhjiaaGreatDoor
open Go.RowKit Go.Lib
set_option linter.unusedSimpArgs false
set_option linter.unusedVariables false
open Go.RowKit
theorem still_next {P:Program} {ops:Array Oper} {md:Region.Mode} {Q:Exit→Act→World→Prop} {S:Nat→World→Prop} {f j:Nat} {oj:Oper} {listed:Array Bool} {a:Act} {w:World} (hl:Region.ready md ops listed=[j]) (hj:ops[j]?=some oj)
  (h:∀ R:Act→World→Prop,(∀ a' w',(∀ i,¬ waitsFor md ops j i→S i w→S i w')→stillAny P md ops Q S f (listed.setIfInBounds j true) a' w'→R a' w')→wpList P ops (only R) [oj] a w):stillAny P md ops Q S (f+1) listed a w:=
 still_pick [j] hl (by simp) (fun i hi=>by rw [List.mem_singleton.1 hi];exact still_one hj h)
theorem still_both {P:Program} {ops:Array Oper} {md:Region.Mode} {Q:Exit→Act→World→Prop} {S:Nat→World→Prop} {f i j:Nat} {oi oj:Oper} {listed:Array Bool} {a:Act} {w:World} (hl:Region.ready md ops listed=[i,j]) (hi:ops[i]?=some oi) (hj:ops[j]?=some oj)
  (h1:∀ R:Act→World→Prop,(∀ a' w',(∀ t,¬ waitsFor md ops i t→S t w→S t w')→stillAny P md ops Q S f (listed.setIfInBounds i true) a' w'→R a' w')→wpList P ops (only R) [oi] a w)
  (h2:∀ R:Act→World→Prop,(∀ a' w',(∀ t,¬ waitsFor md ops j t→S t w→S t w')→stillAny P md ops Q S f (listed.setIfInBounds j true) a' w'→R a' w')→wpList P ops (only R) [oj] a w):stillAny P md ops Q S (f+1) listed a w:=
 still_pick [i,j] hl (by simp) (fun t ht=>by
  rcases List.mem_cons.1 ht with rfl | ht
  ·exact still_one hi h1
  ·rw [List.mem_singleton.1 ht];exact still_one hj h2)
theorem ChR.row {w:World} {m:CM} {g:Nat} {l:Array Value} (h:ChR w m) (hne:m.cv.ownBlock≠some g):ChR (w.setRow g l) m:=Rd.grown (grown_setRow w g l) (.inr (.inl hne)) h
theorem ChR.cell {w:World} {m:CM} {p:Addr} {u:Value} (h:ChR w m) (hne:m.cv.ownBlock≠some p.block):ChR (w.setCell p u) m:=Rd.setCell p u hne h
def PkR (cs:List CM) (i:Nat) (ts:List CM) (R:List Cl):Prop:=
 (i=0∧ts=[]∧pk (cs.map CM.c)=R)∨(∃ (ini:List CM) (m:CM),0<i∧ts=ini ++ [m]∧ini.map CM.c ++ pkGo m.c ((cs.drop i).map CM.c)=R)
theorem PkR.end {cs:List CM} {ts:List CM} {R:List Cl} (h:PkR cs cs.length ts R):ts.map CM.c=R:=by
 rcases h with ⟨h1,rfl,h2⟩ | ⟨ini,m,h1,rfl,h3⟩
 ·rw [List.eq_nil_of_length_eq_zero h1] at h2
  exact h2
 ·rw [List.drop_length] at h3
  rw [← h3]
  simp [pkGo]
theorem PkR.first {cs:List CM} {ts:List CM} {R:List Cl} (hl:0<cs.length) (h:PkR cs 0 ts R) (m:CM) (hm:m.c=cs[0].c):PkR cs 1 (ts ++ [m]) R:=by
 rcases h with ⟨h1,rfl,h2⟩ | ⟨ini,m,h1,_⟩
 ·refine .inr ⟨[],m,by omega,rfl,?_⟩
  rw [← h2,hm]
  cases cs with
  | nil=>simp at hl
  | cons a r=>rfl
 ·omega
theorem PkR.last {cs:List CM} {i:Nat} {ini:List CM} {m:CM} {R:List Cl} (h:PkR cs i (ini ++ [m]) R):ini.map CM.c ++ pkGo m.c ((cs.drop i).map CM.c)=R:=by
 rcases h with ⟨_,h2,_⟩ | ⟨ini',m',h1,h4,h3⟩
 ·simp at h2
 ·obtain⟨e1,e2⟩:=List.append_inj' h4 rfl
  injection e2 with e2
  subst e1 e2
  exact h3
theorem PkR.new {cs:List CM} {i:Nat} {ini:List CM} {m0:CM} {R:List Cl} (hi:i<cs.length) (h:PkR cs i (ini ++ [m0]) R) (hk:cont m0.c cs[i].c=false) (m:CM) (hm:m.c=cs[i].c):PkR cs (i+1) (ini ++ [m0] ++ [m]) R:=by
 have h3:=h.last
 refine .inr ⟨ini ++ [m0],m,by omega,rfl,?_⟩
 rw [List.drop_eq_getElem_cons hi,List.map_cons,pkGo,hk] at h3
 rw [← h3,hm]
 simp
theorem PkR.join {cs:List CM} {i:Nat} {ini:List CM} {m:CM} {R:List Cl} (hi:i<cs.length) (h:PkR cs i (ini ++ [m]) R) (hk:cont m.c cs[i].c=true):PkR cs (i+1) (ini ++ [⟨longer m.c cs[i].c.len,m.cv⟩]) R:=by
 have h3:=h.last
 refine .inr ⟨ini,_,by omega,rfl,?_⟩
 rw [List.drop_eq_getElem_cons hi,List.map_cons,pkGo,hk] at h3
 exact h3
theorem PkR.some {cs:List CM} {i:Nat} {ts:List CM} {R:List Cl} (h0:0<i) (h:PkR cs i ts R):∃ ini m,ts=ini ++ [m]:=by
 rcases h with ⟨h1,_⟩ | ⟨ini,m,_,h,_⟩
 ·omega
 ·exact⟨ini,m,h⟩
def PkV (cs:List CM) (i:Nat) (ts:List CM):Prop:=(∀ m∈ts,VC m.c)∧tot (ts.map CM.c)=tot ((cs.take i).map CM.c)
theorem tot_take {cs:List CM} {i:Nat} (hi:i<cs.length):tot ((cs.take (i+1)).map CM.c)=tot ((cs.take i).map CM.c)+cs[i].c.len:=by
 rw [← List.take_append_getElem hi,List.map_append,tot_append]
 simp [tot]
theorem tot_pre {cs:List CM} (hv:∀ c∈cs,VC c.c) (i:Nat):tot ((cs.take i).map CM.c)≤tot (cs.map CM.c):=by
 have h:tot (cs.map CM.c)=tot ((cs.take i).map CM.c)+tot ((cs.drop i).map CM.c):=by rw [← tot_append,← List.map_append,List.take_append_drop]
 have h2:0≤tot ((cs.drop i).map CM.c):=tot_nonneg fun c hc=>by
  obtain⟨m,hm,rfl⟩:=List.mem_map.1 hc
  exact (hv m (List.mem_of_mem_drop hm)).vl
 omega
theorem PkV.new {cs:List CM} {i:Nat} {ts:List CM} (hi:i<cs.length) (hv:∀ c∈cs,VC c.c) (h:PkV cs i ts) (m:CM) (hm:m.c=cs[i].c):PkV cs (i+1) (ts ++ [m]):=by
 refine⟨fun x hx=>?_,?_⟩
 ·rcases List.mem_append.1 hx with h1 | h1
  ·exact h.1 x h1
  ·rw [List.mem_singleton.1 h1,hm]
   exact hv _ (List.getElem_mem hi)
 ·rw [tot_take hi,List.map_append,tot_append,h.2]
  simp [tot,hm]
theorem PkV.len {cs:List CM} {i:Nat} {ini:List CM} {m:CM} (hi:i<cs.length) (hv:∀ c∈cs,VC c.c) (ht:tot (cs.map CM.c)≤2147483647) (h:PkV cs i (ini ++ [m])):0≤m.c.len∧m.c.len+cs[i].c.len≤2147483647:=by
 have h1:=(h.1 m (by simp)).len
 have h2:=h.2
 rw [List.map_append,tot_append] at h2
 have h3:0≤tot (ini.map CM.c):=tot_nonneg fun c hc=>by
  obtain⟨x,hx,rfl⟩:=List.mem_map.1 hc
  exact (h.1 x (List.mem_append_left _ hx)).vl
 have h4:=tot_pre hv (i+1)
 rw [tot_take hi] at h4
 simp only [List.map_cons,List.map_nil,tot] at h2
 omega
theorem PkV.join {cs:List CM} {i:Nat} {ini:List CM} {m:CM} (hi:i<cs.length) (hv:∀ c∈cs,VC c.c) (ht:tot (cs.map CM.c)≤2147483647) (h:PkV cs i (ini ++ [m])) (hk:cont m.c cs[i].c=true):PkV cs (i+1) (ini ++ [⟨longer m.c cs[i].c.len,m.cv⟩]):=by
 have hl:=h.len hi hv ht
 refine⟨fun x hx=>?_,?_⟩
 ·rcases List.mem_append.1 hx with h1 | h1
  ·exact h.1 x (List.mem_append_left _ h1)
  ·rw [List.mem_singleton.1 h1]
   exact (h.1 m (by simp)).longer (hv _ (List.getElem_mem hi)) hk hl.2
 ·have h2:=h.2
  rw [List.map_append,tot_append] at h2
  rw [tot_take hi,List.map_append,tot_append]
  simp [tot,longer] at h2 ⊢
  omega
end Go.Proofs.YtgbiodnfpbhjiaaGreatDoor

namespace Go.Proofs.YtgbiodnfpbhjiaaGreatDoor
set_option linter.unusedVariables false
set_option linter.unusedSimpArgs false
def trkL (es:List Ev):List Cl:=pk (trk 0 blkS es)
open Go.RowKit Go.Lib
def zRes (w:World) (vs:Array Value):World:=((w.alloc (.cells vs 24)).alloc (.cells #[.slice none 0 0] 35)).alloc (.cells #[.int .i64 0] 36)
structure Tv (w:World) (vs:List Value) (tv:Value) (wx:World):Prop where
 gr:Gr w wx
 c0:Cel wx w.heap.size vs
 c1:Blk wx (w.heap.size+1) 35 [tv]
 c2:Blk wx (w.heap.size+1+1) 36 [.int .i64 0]
theorem Tv.by {w wx wy:World} {vs:List Value} {tv:Value} (h:Tv w vs tv wx) (hg:Gr wx wy):Tv w vs tv wy:=⟨h.gr.trans hg,h.c0.gr hg,h.c1.gr hg,h.c2.gr hg⟩
theorem Tv.new (w:World) (vs:Array Value):Tv w vs.toList (.slice none 0 0) (zRes w vs):=by
 unfold zRes
 have k0:=((Cel.new w vs 24).alloc (.cells #[.slice none 0 0] 35)).alloc (.cells #[.int .i64 0] 36)
 have k1:=(Blk.new (w.alloc (.cells vs 24)) [.slice none 0 0] 35).gr ((Gr.refl _).alloc (.cells #[.int .i64 0] 36))
 have k2:=Blk.new ((w.alloc (.cells vs 24)).alloc (.cells #[.slice none 0 0] 35)) [.int .i64 0] 36
 simp at k1 k2
 exact⟨(((Gr.refl w).alloc _).alloc _).alloc _,k0,k1,k2⟩
theorem Tv.put {w wx:World} {vs:List Value} {tv u:Value} (h:Tv w vs tv wx):Tv w vs u (wx.setCell ⟨w.heap.size+1,0,none⟩ u):=
 ⟨h.gr.setCell (by show w.heap.size≤w.heap.size+1;omega) _,h.c0.other (by show w.heap.size+1≠w.heap.size;omega) _,h.c1.set 0 u,h.c2.other (by show w.heap.size+1≠w.heap.size+1+1;omega) _⟩
def TrkP (l:El) (E:Int) (v:Value) (w:World):Prop:=
 (vEl l=false∧E=1∧v=.slice none 0 0)∨(vEl l=true∧64<(trkL l.evs).length∧E=5∧v=.slice none 0 0)∨(vEl l=true∧(trkL l.evs).length≤64∧E=0∧∃ ts,TrR w v ts∧ts.map CM.c=trkL l.evs)
theorem own_off {W w:World} {base size n g:Nat} {e:TypeId} {v:Value} {xs:List Value} (h:W.ownsRow base e size v n xs) (hg:W.grownBy w (some g)) (hne:v.ownBlock≠some g):w.ownsRow base e size v n xs:=by
 refine⟨h.1,?_⟩
 rcases h.2 with hn | ⟨g',cap,cur,rfl,hb,hgg,rest⟩
 ·exact .inl hn
 ·refine .inr ⟨g',cap,cur,rfl,hb,?_,rest⟩
  rw [hg.block g' (Array.getElem?_eq_some_iff.1 hgg).1 (fun e=>hne (by injection e with e;rw [← e];rfl))]
  exact hgg
structure Rt (w:World) (P:Nat) (vs:List Value) (bf:List Value) (ov:Value) (L:List Cl) (wx:World):Prop where
 gr:Gr w wx
 c0:Cel wx w.heap.size vs
 bb:Blk wx P 79 bf
 own:wx.ownsRow (P+1) 81 22 ov L.length (cflat (L.map cm0))
theorem Rt.by {w wx wy:World} {P:Nat} {vs:List Value} {bf:List Value} {ov:Value} {L:List Cl} (h:Rt w P vs bf ov L wx) (hg:Gr wx wy):Rt w P vs bf ov L wy:=
 ⟨h.gr.trans hg,h.c0.gr hg,h.bb.gr hg,own_gr hg h.own⟩
theorem Rt.app {w wx wy:World} {P:Nat} {vs:List Value} {bf:List Value} {ov v':Value} {L:List Cl} (h:Rt w P vs bf ov L wx) (hP:w.heap.size<P) (c:Cl)
  (ho:wy.ownsRow (P+1) 81 22 v' (L.length+1) (cflat (L.map cm0) ++ (cm0 c).cells)) (hg:wx.grownBy wy ov.ownBlock):Rt w P vs bf v' (L ++ [c]) wy:=by
 have hge:=own_ge h.own
 refine⟨h.gr.grown hg (fun k hk=>by have:=hge k hk;omega),h.c0.grown hg (fun e=>by have:=hge _ e;omega),h.bb.grown hg (fun e=>by have:=hge _ e;omega),?_⟩
 rw [List.map_append,cflat_append,List.length_append,show cflat ([c].map cm0)=(cm0 c).cells by simp [cflat]]
 exact ho
theorem Rt.cell {w wx:World} {P:Nat} {vs:List Value} {bf:List Value} {ov:Value} {L:List Cl} (h:Rt w P vs bf ov L wx) (hP:w.heap.size<P) (i:Nat) (u:Value):Rt w P vs (bf.set i u) ov L (wx.setCell ⟨P,i,none⟩ u):=
 ⟨h.gr.setCell (by show w.heap.size≤P;omega) _,h.c0.other (by show P≠_;omega) _,h.bb.set i u,own_off h.own (grown_setCell wx ⟨P,i,none⟩ u) (fun e=>by have:=own_ge h.own _ e;simp at this;omega)⟩
end Go.Proofs.YtgbiodnfpbhjiaaGreatDoor

namespace Go.Proofs.YtgbiodnfpbhjiaaGreatDoor
open Go.RowKit Go.Lib
set_option linter.unusedSimpArgs false
set_option linter.unusedVariables false
theorem VE.mono {e:Ev} {n d1 d2:Int} (h:VE e n d1) (hd:d1≤d2):VE e n d2:=
 ⟨h.kd,h.l,h.ft,by have:=h.d;omega,h.fr,by rcases h.rl with q | ⟨q1,q2,q3,q4,q5,q6⟩;exact .inl q;exact .inr ⟨q1,q2,q3,by omega,q5,by omega⟩⟩
theorem vEvs_mono {d1 d2:Int} (hd:d1≤d2):∀ {l:List Ev} {n:Int},vEvs d1 n l=true→vEvs d2 n l=true
 | [],_,_=>rfl
 | e :: l,n,h=>by
  obtain⟨h1,h2⟩:=vEvs_cons.1 h
  exact vEvs_cons.2 ⟨h1.mono hd,vEvs_mono hd h2⟩
theorem emade_ok {l:El} (h:MadeE l):vEl l=true:=by
 have ho:C19.okB l.base l.drop=true:=by
  have hb:=h.b
  have hd:=h.d
  unfold isBs at hb
  cases hq:l.drop with
  | false=>rcases hb with e | e | e | e <;> rw [e] <;> decide
  | true=>rcases hd hq with e | e <;> rw [e] <;> decide
 have hday:30000≤C19.dayN l.base l.drop:=by
  obtain⟨b1,b2,b3,b4⟩:=C19.okB_bounds ho
  unfold C19.dayN
  omega
 have ht:∀ s∈titlesL,vLine s=true:=by decide +kernel
 unfold vEl
 rw [ho,ht _ h.t,decide_eq_true (show l.evs.length≤999 by have:=h.n;omega),vEvs_mono hday h.v]
 rfl
theorem flatB_len:∀ {ls:List (List UInt8)},(∀ c∈ls,c.length≤100)→(flatL ls).length≤101 * ls.length
 | [],_=>by simp [flatL]
 | c :: r,h=>by
  have h1:=h c (.head _)
  have h2:=flatB_len (ls:=r) (fun x hx=>h x (.tail _ hx))
  rw [flatL_cons]
  simp only [List.length_append,List.length_cons,List.length_nil]
  omega
theorem lines_size (l:El) (h:vEl l=true):∀ c∈linesB l,c.length≤100:=by
 obtain⟨h1,h2,h3,h4⟩:=vEl_parts h
 intro c hc
 unfold linesB at hc
 rcases List.mem_cons.1 hc with rfl | hc
 ·have:=(vLine_sz h2).2
  unfold ttlB
  rw [List.length_append,ba_len]
  simp only [List.length_cons,List.length_nil]
  omega
 rcases List.mem_cons.1 hc with rfl | hc
 ·unfold fcmB
  cases l.drop <;> decide
 obtain⟨i,hi⟩:=List.mem_iff_getElem?.1 hc
 have hl:i<l.evs.length:=by
  have:=(List.getElem?_eq_some_iff.1 hi).1
  rwa [evLs_length] at this
 rw [evLs_get _ _ _ _ _ hl] at hi
 injection hi with hi
 obtain⟨m,_,hm⟩:=vEvs_at hl (Int.le_refl 0) h4
 rw [← hi]
 exact evL_size h1 hm
theorem TrkP.gr {l:El} {E:Int} {v:Value} {w w':World} (h:TrkP l E v w) (hg:Gr w w'):TrkP l E v w':=by
 rcases h with h | h | ⟨h1,h2,h3,ts,h4,h5⟩
 ·exact .inl h
 ·exact .inr (.inl h)
 ·exact .inr (.inr ⟨h1,h2,h3,ts,h4.gr hg,h5⟩)
end Go.Proofs.YtgbiodnfpbhjiaaGreatDoor

namespace Go.Proofs
open Go.Shelf
def Tryz.lays206_ren:Go.Shelf.Ren:=⟨fun | 206=>178 | n=>n,fun | 9=>9 | 4=>4 | 3=>3 | n=>n,fun | n=>n⟩
def Tryz.lays101_ren:Go.Shelf.Ren:=⟨fun | 101=>107 | 208=>139 | 206=>178 | n=>n,fun | 9=>9 | 4=>4 | 3=>3 | n=>n,fun | n=>n⟩
theorem Tryz.lays101:Go.Proofs.Lays.n101 Tryz.prog Tryz.lays101_ren:={
 mixed:=by kernel_rfl
 f101:=Tryz.func107.trans (congrArg some (by kernel_rfl))
 f206:=Tryz.func178.trans (congrArg some (by kernel_rfl))
 f208:=Tryz.func139.trans (congrArg some (by kernel_rfl))
 t3:=Tryz.underlying3
 a3:=Tryz.isAgg3
 z3:=Tryz.sizeOf3
 v3:=Tryz.zeroValue3
 t4:=Tryz.underlying4
 a4:=Tryz.isAgg4
 z4:=Tryz.sizeOf4
 v4:=Tryz.zeroValue4
 t9:=Tryz.underlying9
 a9:=Tryz.isAgg9
 z9:=Tryz.sizeOf9
 v9:=Tryz.zeroValue9 }
open Go.RowKit Go.Lib in
theorem Tryz.strings_TrimPrefix (s p:ByteArray) (w:World) :
  Calls Tryz.prog 107 #[.string s,.string p] w fun e w'=>e=.returned (.string ⟨(Lib.trimPrefix s.data.toList p.data.toList).toArray⟩)∧w'=w:=Any.strings_TrimPrefix Tryz.lays101 s p w
def Tryz.lays221_ren:Go.Shelf.Ren:=⟨fun | 221=>179 | 268=>217 | 138=>218 | 143=>219 | 195=>240 | 197=>241 | 218=>242 | 219=>177 | 260=>258 | 217=>213 | 225=>214 | 224=>215 | 267=>216 | 266=>238 | 314=>239 | n=>n,fun | 9=>9 | 3=>3 | 31=>43 | 4=>4 | 0=>0 | 105=>284 | 21=>21 | 5=>5 | 46=>203 | 119=>306 | 139=>309 | 138=>308 | 146=>253 | 51=>252 | n=>n,fun | 1=>0 | 3=>8 | 4=>9 | n=>n⟩
def Tryz.lays146_ren:Go.Shelf.Ren:=⟨fun | 146=>140 | 221=>179 | 268=>217 | 138=>218 | 143=>219 | 195=>240 | 197=>241 | 218=>242 | 219=>177 | 260=>258 | 217=>213 | 225=>214 | 224=>215 | 267=>216 | 266=>238 | 314=>239 | n=>n,fun | 9=>9 | 31=>43 | 3=>3 | 4=>4 | 0=>0 | 105=>284 | 21=>21 | 5=>5 | 46=>203 | 119=>306 | 139=>309 | 138=>308 | 146=>253 | 51=>252 | n=>n,fun | 1=>0 | 3=>8 | 4=>9 | n=>n⟩
theorem Tryz.lays146:Go.Proofs.Lays.n146 Tryz.prog Tryz.lays146_ren:={
 mixed:=by kernel_rfl
 f138:=Tryz.func218.trans (congrArg some (by kernel_rfl))
 f143:=Tryz.func219.trans (congrArg some (by kernel_rfl))
 f146:=Tryz.func140.trans (congrArg some (by kernel_rfl))
 f195:=Tryz.func240.trans (congrArg some (by kernel_rfl))
 f197:=Tryz.func241.trans (congrArg some (by kernel_rfl))
 f217:=Tryz.func213.trans (congrArg some (by kernel_rfl))
 f218:=Tryz.func242.trans (congrArg some (by kernel_rfl))
 f219:=Tryz.func177.trans (congrArg some (by kernel_rfl))
 f221:=Tryz.func179.trans (congrArg some (by kernel_rfl))
 f224:=Tryz.func215.trans (congrArg some (by kernel_rfl))
 f225:=Tryz.func214.trans (congrArg some (by kernel_rfl))
 f260:=Tryz.func258.trans (congrArg some (by kernel_rfl))
 f266:=Tryz.func238.trans (congrArg some (by kernel_rfl))
 f267:=Tryz.func216.trans (congrArg some (by kernel_rfl))
 f268:=Tryz.func217.trans (congrArg some (by kernel_rfl))
 f314:=Tryz.func239.trans (congrArg some (by kernel_rfl))
 t0:=Tryz.underlying0
 a0:=Tryz.isAgg0
 z0:=Tryz.sizeOf0
 v0:=Tryz.zeroValue0
 t3:=Tryz.underlying3
 a3:=Tryz.isAgg3
 z3:=Tryz.sizeOf3
 v3:=Tryz.zeroValue3
 t4:=Tryz.underlying4
 a4:=Tryz.isAgg4
 z4:=Tryz.sizeOf4
 v4:=Tryz.zeroValue4
 t5:=Tryz.underlying5
 a5:=Tryz.isAgg5
 z5:=Tryz.sizeOf5
 v5:=Tryz.zeroValue5
 t9:=Tryz.underlying9
 a9:=Tryz.isAgg9
 z9:=Tryz.sizeOf9
 v9:=Tryz.zeroValue9
 t21:=Tryz.underlying21
 a21:=Tryz.isAgg21
 z21:=Tryz.sizeOf21
 v21:=Tryz.zeroValue21
 t31:=Tryz.underlying43
 a31:=Tryz.isAgg43
 z31:=Tryz.sizeOf43
 v31:=Tryz.zeroValue43
 t46:=Tryz.underlying203
 a46:=Tryz.isAgg203
 z46:=Tryz.sizeOf203
 v46:=Tryz.zeroValue203
 t51:=Tryz.underlying252
 a51:=Tryz.isAgg252
 z51:=Tryz.sizeOf252
 v51:=Tryz.zeroValue252
 t105:=Tryz.underlying284
 a105:=Tryz.isAgg284
 z105:=Tryz.sizeOf284
 v105:=Tryz.zeroValue284
 t119:=Tryz.underlying306
 a119:=Tryz.isAgg306
 z119:=Tryz.sizeOf306
 t138:=Tryz.underlying308
 a138:=Tryz.isAgg308
 z138:=Tryz.sizeOf308
 v138:=Tryz.zeroValue308
 t139:=Tryz.underlying309
 a139:=Tryz.isAgg309
 z139:=Tryz.sizeOf309
 v139:=Tryz.zeroValue309
 t146:=Tryz.underlying253
 a146:=Tryz.isAgg253
 z146:=Tryz.sizeOf253
 v146:=Tryz.zeroValue253
 g1:=by kernel_rfl
 g3:=by kernel_rfl
 g4:=by kernel_rfl }
open Go.RowKit Go.Lib in
theorem Tryz.strings_Split (s sep:ByteArray) (m:Int) (w:World) (hs:s.size<4294967281) (hm:w.cell? ⟨0,0,none⟩=some (.int .i64 m)) (h1:1≤sep.size) :
  Calls Tryz.prog 140 #[.string s,.string sep] w fun e w'=>
   e=.returned (.slice (some ⟨w.heap.size,0,none⟩) (Lib.countB s sep+1) (Lib.countB s sep+1))∧w'=w.alloc (.cells ((Lib.splitB sep 0 (Lib.countB s sep) s).map Value.string).toArray 9):=Any.strings_Split Tryz.lays146 (by kernel_rfl) s sep m w hs hm h1
end Go.Proofs
