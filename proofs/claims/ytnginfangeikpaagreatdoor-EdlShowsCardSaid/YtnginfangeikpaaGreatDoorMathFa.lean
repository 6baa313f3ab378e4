/-
  The text of a list of events, in plain words; its lines.
  Conditions: none.
-/
import Derived.Test.YtnginfangeikpaaGreatDoorWalkEe
import Derived.Test.YtnginfangeikpaaGreatDoorWalk19F
namespace Go.Proofs.YtnginfangeikpaaGreatDoor
open Go.RowKit Go.Lib
set_option linter.unusedSimpArgs false
set_option linter.unusedVariables false
def b8 (x:Int):UInt8:=UInt8.ofNat x.toNat
def t3 (n:Int):List UInt8:=[b8 (48+n / 100),b8 (48+n / 10 % 10),b8 (48+n % 10)]
def labS (n b:Int) (d:Bool):ByteArray:=C19.fmtS (C19.lm n b d / 60) (C19.lm n b d % 60) (C19.lf n b d / b) (C19.lf n b d % b) d
def labB (n b:Int) (d:Bool):List UInt8:=(labS n b d).data.toList
def reelB (e:Ev):List UInt8:=if e.reel.size=0 then [66,76] else e.reel.data.toList
def kdB (e:Ev):List UInt8:=if e.k=0 then [67] else if e.k=1 then 68 :: 32 :: t3 e.fr else 87 :: b8 (48+e.p) :: 32 :: t3 e.fr
def evL (b:Int) (d:Bool) (num:Int) (e:Ev):List UInt8:=
 t3 num ++ ([32] ++ (reelB e ++ ([32,86,32] ++ (kdB e ++ ([32] ++ labB e.i b d ++ ([32] ++ labB e.o b d ++ ([32] ++ labB e.f b d ++ ([32] ++ labB e.t b d))))))))
def fcmB (d:Bool):List UInt8:=if d then [70,67,77,58,32,68,82,79,80,32,70,82,65,77,69] else [70,67,77,58,32,78,79,78,45,68,82,79,80,32,70,82,65,77,69]
def ttlB (s:ByteArray):List UInt8:=[84,73,84,76,69,58,32] ++ s.data.toList
def evLs (b:Int) (d:Bool):Int→List Ev→List (List UInt8)
 | _,[]=>[]
 | n,e :: r=>evL b d n e :: evLs b d (n+1) r
def linesB (l:El):List (List UInt8):=ttlB l.title :: fcmB l.drop :: evLs l.base l.drop 1 l.evs
def flatL (ls:List (List UInt8)):List UInt8:=ls.flatMap fun c=>c ++ [10]
def fmtB (l:El):List UInt8:=flatL (linesB l)
theorem flatL_cons (c:List UInt8) (r:List (List UInt8)):flatL (c :: r)=c ++ [10] ++ flatL r:=rfl
theorem flatL_append (a b:List (List UInt8)):flatL (a ++ b)=flatL a ++ flatL b:=by unfold flatL;rw [List.flatMap_append]
theorem evLs_append (b:Int) (d:Bool):∀ (xs ys:List Ev) (n:Int),evLs b d n (xs ++ ys)=evLs b d n xs ++ evLs b d (n+xs.length) ys
 | [],ys,n=>by simp [evLs]
 | x :: xs,ys,n=>by
  rw [List.cons_append,evLs,evLs,evLs_append b d xs ys (n+1),List.cons_append,List.length_cons]
  rw [show n+1+(xs.length:Int)=n+((xs.length+1:Nat):Int) by omega]
theorem b8_ne {x:Int} (h0:0≤x) (h1:x<256) (h:x≠10):(10:UInt8)≠b8 x:=by
 intro e
 have:=congrArg UInt8.toNat e
 unfold b8 at this
 simp [UInt8.toNat_ofNat] at this
 omega
theorem t3_no {n:Int} (h0:0≤n) (h1:n<1000):(10:UInt8)∉t3 n:=by
 unfold t3
 simp only [List.mem_cons,List.not_mem_nil,or_false,not_or]
 exact⟨b8_ne (by omega) (by omega) (by omega),b8_ne (by omega) (by omega) (by omega),b8_ne (by omega) (by omega) (by omega)⟩
theorem labB_no {n b:Int} {d:Bool} (h:C19.okB b d=true):(10:UInt8)∉labB n b d∧(labB n b d).length=11:=by
 obtain⟨b1,b2,_,_⟩:=C19.okB_bounds h
 obtain⟨m1,m2,f1,f2⟩:=C19.l_bounds (n:=n) h
 refine⟨?_,rfl⟩
 unfold labB labS C19.fmtS C19.fmtL
 have q1:C19.lf n b d / b<60:=by
  refine Int.ediv_lt_of_lt_mul (by omega) ?_
  omega
 have q0:0≤C19.lf n b d / b:=Int.ediv_nonneg f1 (by omega)
 have r0:=Int.emod_nonneg (C19.lf n b d) (show b≠0 by omega)
 have r1:=Int.emod_lt_of_pos (C19.lf n b d) (show 0<b by omega)
 generalize C19.lf n b d / b=x at *
 generalize C19.lf n b d % b=y at *
 generalize C19.lm n b d=z at *
 simp only [List.map_cons,List.map_nil,List.mem_cons,List.not_mem_nil,or_false,not_or]
 refine⟨b8_ne (by omega) (by omega) (by omega),b8_ne (by omega) (by omega) (by omega),b8_ne (by omega) (by omega) (by omega),b8_ne (by omega) (by omega) (by omega),b8_ne (by omega) (by omega) (by omega),b8_ne (by omega) (by omega) (by omega),b8_ne (by omega) (by omega) (by omega),b8_ne (by omega) (by omega) (by omega),?_,b8_ne (by omega) (by omega) (by omega),b8_ne (by omega) (by omega) (by omega)⟩
 cases d <;> exact b8_ne (by decide) (by decide) (by decide)
structure LnOk (ls:List (List UInt8)):Prop where
 no:∀ c∈ls,(10:UInt8)∉c
 ev:∀ (q:Nat) (c:List UInt8),ls[q]?=some c→2≤q→12≤c.length∧c.take 3=t3 ((q:Int) - 1)
theorem vEvs_at {day:Int}:∀ {es:List Ev} {n:Int} {i:Nat} (hi:i<es.length),0≤n→vEvs day n es=true→∃ m,0≤m∧VE es[i] m day
 | x :: es,n,0,hi,h0,h=>⟨n,h0,(vEvs_cons.1 h).1⟩
 | x :: es,n,i+1,hi,h0,h=>by
  obtain⟨h1,h2⟩:=vEvs_cons.1 h
  exact vEvs_at (es:=es) (i:=i) (by simpa using hi) (by have:=h1.l;have:=h1.ft;omega) h2
theorem vEl_parts {l:El} (h:vEl l=true):C19.okB l.base l.drop=true∧vLine l.title=true∧l.evs.length≤999∧vEvs (C19.dayN l.base l.drop) 0 l.evs=true:=by
 unfold vEl at h
 simp only [Bool.and_eq_true,decide_eq_true_eq] at h
 exact h
def Sc (ls:List (List UInt8)) (i q st:Nat):Prop:=q≤ls.length∧st=(flatL (ls.take q)).length∧st≤i∧(∀ c,ls[q]?=some c→i≤st+c.length)∧(q=ls.length→i=st)
theorem flat_split (ls:List (List UInt8)) (q:Nat) (c:List UInt8) (h:ls[q]?=some c):flatL ls=flatL (ls.take q) ++ (c ++ [10] ++ flatL (ls.drop (q+1))):=by
 have h2:q<ls.length:=(List.getElem?_eq_some_iff.1 h).1
 have h3:ls[q]=c:=(List.getElem?_eq_some_iff.1 h).2
 conv=>lhs;rw [← List.take_append_drop q ls,flatL_append,List.drop_eq_getElem_cons h2,flatL_cons,h3]
theorem Sc.step {ls:List (List UInt8)} (hk:LnOk ls) {i q st:Nat} (h:Sc ls i q st) (hi:i<(flatL ls).length) :
  ((flatL ls)[i]?≠some 10∧Sc ls (i+1) q st)∨((flatL ls)[i]?=some 10∧Sc ls (i+1) (q+1) (i+1)∧(2≤q→st+12≤i∧((flatL ls).drop st).take 3=t3 ((q:Int) - 1))):=by
 obtain⟨h1,h2,h3,h4,h5⟩:=h
 have hq:q<ls.length:=by
  by_cases e:q=ls.length
  ·have:=h5 e
   subst e
   rw [List.take_length] at h2
   omega
  ·omega
 have hc:=List.getElem?_eq_getElem hq
 have h6:=h4 _ hc
 have h7:=flat_split ls q _ hc
 have hno:=hk.no _ (List.getElem_mem hq)
 generalize hcc:ls[q]=c at *
 by_cases hlt:i<st+c.length
 ·refine .inl ⟨?_,h1,h2,by omega,fun c' hc'=>?_,fun e=>by omega⟩
  ·rw [h7,List.getElem?_append_right (by omega),List.append_assoc,List.getElem?_append_left (by omega)]
   intro e
   exact hno (List.mem_of_getElem? e)
  ·rw [hc] at hc'
   injection hc' with hc'
   subst hc'
   omega
 ·have hie:i=st+c.length:=by omega
  have hst:(flatL (ls.take (q+1))).length=i+1:=by
   rw [List.take_succ_eq_append_getElem hq,flatL_append,List.length_append,← h2,flatL_cons,hcc]
   simp [flatL]
   omega
  refine .inr ⟨?_,⟨by omega,hst.symm,Nat.le_refl _,fun c' _=>by omega,fun _=>rfl⟩,fun hq2=>?_⟩
  ·rw [h7,List.getElem?_append_right (by omega),List.append_assoc,List.getElem?_append_right (by omega)]
   rw [show i - (flatL (ls.take q)).length - c.length=0 by omega]
   rfl
  ·obtain⟨e1,e2⟩:=hk.ev q c hc hq2
   refine⟨by omega,?_⟩
   rw [h7,h2,List.drop_left,List.append_assoc,List.take_append_of_le_length (by omega)]
   exact e2
theorem Sc.end {ls:List (List UInt8)} {q st:Nat} (h:Sc ls (flatL ls).length q st):st=(flatL ls).length∧q=ls.length:=by
 obtain⟨h1,h2,h3,h4,h5⟩:=h
 by_cases e:q=ls.length
 ·exact⟨(h5 e).symm,e⟩
 ·have hq:q<ls.length:=by omega
  have hc:=List.getElem?_eq_getElem hq
  have h6:=h4 _ hc
  have h7:=congrArg List.length (flat_split ls q _ hc)
  rw [List.length_append,List.length_append,List.length_append,List.length_singleton] at h7
  omega
end Go.Proofs.YtnginfangeikpaaGreatDoor
