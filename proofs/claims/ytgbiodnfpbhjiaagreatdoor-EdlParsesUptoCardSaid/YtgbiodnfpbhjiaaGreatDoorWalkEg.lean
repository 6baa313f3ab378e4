/-
  The text of a list of events, in plain words; its lines.
  Conditions: none.
-/
import Derived.Test.YtgbiodnfpbhjiaaGreatDoorWalkEe
import Derived.Test.YtgbiodnfpbhjiaaGreatDoorWalk19F
import Derived.Test.YtgbiodnfpbhjiaaGreatDoorChecked
import Derived.Test.YtgbiodnfpbhjiaaGreatDoorMem
import Derived.WalkSpells
import Derived.WalkLawsBesides
import Derived.Defers
import Derived.Recover
import Derived.Test.YtgbiodnfpbhjiaaGreatDoorWalkBd
namespace Go.Proofs.YtgbiodnfpbhjiaaGreatDoor
open Go.RowKit Go.Lib
set_option linter.unusedSimpArgs false
set_option linter.unusedVariables false
def b8 (x:Int):UInt8:=UInt8.ofNat x.toNat
def t3 (n:Int):List UInt8:=[b8 (48+n / 100),b8 (48+n / 10 % 10),b8 (48+n % 10)]
def labS (n b:Int) (d:Bool):ByteArray:=C19.fmtS (C19.lm n b d / 60) (C19.lm n b d % 60) (C19.lf n b d / b) (C19.lf n b d % b) d
def labB (n b:Int) (d:Bool):List UInt8:=(labS n b d).data.toList
def reelB (e:Ev):List UInt8:=if e.reel.size=0 then [66,76] else e.reel.data.toList
def kdB (e:Ev):List UInt8:=if e.k=0 then [67] else if e.k=1 then 68 :: 32 :: t3 e.fr else 87 :: b8 (48+e.p) :: 32 :: t3 e.fr
def evL (b:Int) (d:Bool) (num:Int) (e:Ev):List UInt8:=
 t3 num ++ ([32] ++ (reelB e ++ ([32,86,32] ++ (kdB e ++ ([32] ++ labB e.i b d ++ ([32] ++ labB e.o b d ++ ([32] ++ labB e.f b d ++ ([32] ++ labB e.t b d))))))))
def fcmB (d:Bool):List UInt8:=if d then [70,67,77,58,32,68,82,79,80,32,70,82,65,77,69] else [70,67,77,58,32,78,79,78,45,68,82,79,80,32,70,82,65,77,69]
def ttlB (s:ByteArray):List UInt8:=[84,73,84,76,69,58,32] ++ s.data.toList
def evLs (b:Int) (d:Bool):Int→List Ev→List (List UInt8)
 | _,[]=>[]
 | n,e :: r=>evL b d n e :: evLs b d (n+1) r
def linesB (l:El):List (List UInt8):=ttlB l.title :: fcmB l.drop :: evLs l.base l.drop 1 l.evs
def flatL (ls:List (List UInt8)):List UInt8:=ls.flatMap fun c=>c ++ [10]
def fmtB (l:El):List UInt8:=flatL (linesB l)
theorem flatL_cons (c:List UInt8) (r:List (List UInt8)):flatL (c :: r)=c ++ [10] ++ flatL r:=rfl
theorem flatL_append (a b:List (List UInt8)):flatL (a ++ b)=flatL a ++ flatL b:=by unfold flatL;rw [List.flatMap_append]
theorem evLs_append (b:Int) (d:Bool):∀ (xs ys:List Ev) (n:Int),evLs b d n (xs ++ ys)=evLs b d n xs ++ evLs b d (n+xs.length) ys
 | [],ys,n=>by simp [evLs]
 | x :: xs,ys,n=>by
  rw [List.cons_append,evLs,evLs,evLs_append b d xs ys (n+1),List.cons_append,List.length_cons]
  rw [show n+1+(xs.length:Int)=n+((xs.length+1:Nat):Int) by omega]
theorem evLs_length (b:Int) (d:Bool):∀ (xs:List Ev) (n:Int),(evLs b d n xs).length=xs.length
 | [],_=>rfl
 | x :: xs,n=>by rw [evLs,List.length_cons,evLs_length b d xs,List.length_cons]
theorem evLs_get (b:Int) (d:Bool):∀ (xs:List Ev) (n:Int) (i:Nat) (hi:i<xs.length),(evLs b d n xs)[i]?=some (evL b d (n+i) xs[i])
 | x :: xs,n,0,hi=>by simp [evLs]
 | x :: xs,n,i+1,hi=>by
  rw [evLs,List.getElem?_cons_succ,evLs_get b d xs (n+1) i (by simpa using hi)]
  rw [show n+1+(i:Int)=n+((i+1:Nat):Int) by omega]
  rfl
theorem b8_ne {x:Int} (h0:0≤x) (h1:x<256) (h:x≠10):(10:UInt8)≠b8 x:=by
 intro e
 have:=congrArg UInt8.toNat e
 unfold b8 at this
 simp [UInt8.toNat_ofNat] at this
 omega
theorem t3_no {n:Int} (h0:0≤n) (h1:n<1000):(10:UInt8)∉t3 n:=by
 unfold t3
 simp only [List.mem_cons,List.not_mem_nil,or_false,not_or]
 exact⟨b8_ne (by omega) (by omega) (by omega),b8_ne (by omega) (by omega) (by omega),b8_ne (by omega) (by omega) (by omega)⟩
theorem labB_no {n b:Int} {d:Bool} (h:C19.okB b d=true):(10:UInt8)∉labB n b d∧(labB n b d).length=11:=by
 obtain⟨b1,b2,_,_⟩:=C19.okB_bounds h
 obtain⟨m1,m2,f1,f2⟩:=C19.l_bounds (n:=n) h
 refine⟨?_,rfl⟩
 unfold labB labS C19.fmtS C19.fmtL
 have q1:C19.lf n b d / b<60:=by
  refine Int.ediv_lt_of_lt_mul (by omega) ?_
  omega
 have q0:0≤C19.lf n b d / b:=Int.ediv_nonneg f1 (by omega)
 have r0:=Int.emod_nonneg (C19.lf n b d) (show b≠0 by omega)
 have r1:=Int.emod_lt_of_pos (C19.lf n b d) (show 0<b by omega)
 generalize C19.lf n b d / b=x at *
 generalize C19.lf n b d % b=y at *
 generalize C19.lm n b d=z at *
 simp only [List.map_cons,List.map_nil,List.mem_cons,List.not_mem_nil,or_false,not_or]
 refine⟨b8_ne (by omega) (by omega) (by omega),b8_ne (by omega) (by omega) (by omega),b8_ne (by omega) (by omega) (by omega),b8_ne (by omega) (by omega) (by omega),b8_ne (by omega) (by omega) (by omega),b8_ne (by omega) (by omega) (by omega),b8_ne (by omega) (by omega) (by omega),b8_ne (by omega) (by omega) (by omega),?_,b8_ne (by omega) (by omega) (by omega),b8_ne (by omega) (by omega) (by omega)⟩
 cases d <;> exact b8_ne (by decide) (by decide) (by decide)
theorem nm_no {s:ByteArray} (h:nmB s=true):(10:UInt8)∉s.data.toList:=by
 intro hm
 unfold nmB at h
 simp only [Bool.and_eq_true] at h
 have:=List.all_eq_true.1 h.2 10 hm
 exact absurd this (by decide)
theorem line_no {s:ByteArray} (h:vLine s=true):(10:UInt8)∉s.data.toList:=by
 intro hm
 unfold vLine at h
 simp only [Bool.and_eq_true] at h
 have:=List.all_eq_true.1 h.2 10 hm
 exact absurd this (by decide)
theorem evL_no {b:Int} {d:Bool} {num:Int} {e:Ev} {least day:Int} (h:C19.okB b d=true) (hv:VE e least day) (h0:0≤num) (h1:num<1000):(10:UInt8)∉evL b d num e:=by
 have hr:(10:UInt8)∉reelB e:=by
  unfold reelB
  split
  ·decide
  ·rename_i hz
   rcases hv.reel with h | h
   ·exact absurd h hz
   ·exact nm_no h
 have hk:(10:UInt8)∉kdB e:=by
  unfold kdB
  rcases hv.kd with ⟨k0,_⟩ | ⟨k0,k1,k2,k3⟩ | ⟨k0,k1,k2,k3,k4⟩
  ·rw [if_pos k0];decide
  ·rw [if_neg (by omega),if_pos k0]
   simp only [List.mem_cons,not_or]
   exact⟨by decide,by decide,t3_no (by omega) (by omega)⟩
  ·rw [if_neg (by omega),if_neg (by omega)]
   simp only [List.mem_cons,not_or]
   exact⟨by decide,b8_ne (by omega) (by omega) (by omega),by decide,t3_no (by omega) (by omega)⟩
 unfold evL
 simp only [List.mem_append,not_or]
 exact⟨t3_no h0 h1,by decide,hr,by decide,hk,⟨by decide,(labB_no h).1⟩,⟨by decide,(labB_no h).1⟩,⟨by decide,(labB_no h).1⟩,by decide,(labB_no h).1⟩
theorem evL_len {b:Int} {d:Bool} {num:Int} {e:Ev} (h:C19.okB b d=true):12≤(evL b d num e).length∧(evL b d num e).take 3=t3 num:=by
 refine⟨?_,rfl⟩
 unfold evL
 simp only [List.length_append,(labB_no h).2,List.length_cons,List.length_nil]
 omega
structure LnOk (ls:List (List UInt8)):Prop where
 no:∀ c∈ls,(10:UInt8)∉c
 ev:∀ (q:Nat) (c:List UInt8),ls[q]?=some c→2≤q→12≤c.length∧c.take 3=t3 ((q:Int) - 1)
theorem vEvs_at {day:Int}:∀ {es:List Ev} {n:Int} {i:Nat} (hi:i<es.length),0≤n→vEvs day n es=true→∃ m,0≤m∧VE es[i] m day
 | x :: es,n,0,hi,h0,h=>⟨n,h0,(vEvs_cons.1 h).1⟩
 | x :: es,n,i+1,hi,h0,h=>by
  obtain⟨h1,h2⟩:=vEvs_cons.1 h
  exact vEvs_at (es:=es) (i:=i) (by simpa using hi) (by have:=h1.l;have:=h1.ft;omega) h2
theorem vEl_parts {l:El} (h:vEl l=true):C19.okB l.base l.drop=true∧vLine l.title=true∧l.evs.length≤999∧vEvs (C19.dayN l.base l.drop) 0 l.evs=true:=by
 unfold vEl at h
 simp only [Bool.and_eq_true,decide_eq_true_eq] at h
 exact h
theorem linesB_ok (l:El) (h:vEl l=true):LnOk (linesB l)∧(linesB l).length=2+l.evs.length:=by
 obtain⟨h1,h2,h3,h4⟩:=vEl_parts h
 refine⟨⟨fun c hc=>?_,fun q c hc hq=>?_⟩,?_⟩
 ·unfold linesB at hc
  rcases List.mem_cons.1 hc with rfl | hc
  ·unfold ttlB
   simp only [List.mem_append,not_or]
   exact⟨by decide,line_no h2⟩
  rcases List.mem_cons.1 hc with rfl | hc
  ·unfold fcmB
   cases l.drop <;> decide
  obtain⟨i,hi⟩:=List.mem_iff_getElem?.1 hc
  have hl:i<l.evs.length:=by
   have:=(List.getElem?_eq_some_iff.1 hi).1
   rwa [evLs_length] at this
  rw [evLs_get _ _ _ _ _ hl] at hi
  injection hi with hi
  obtain⟨m,_,hm⟩:=vEvs_at hl (Int.le_refl 0) h4
  rw [← hi]
  exact evL_no h1 hm (by omega) (by omega)
 ·obtain⟨i,rfl⟩:∃ i,q=i+2:=⟨q - 2,by omega⟩
  unfold linesB at hc
  rw [List.getElem?_cons_succ,List.getElem?_cons_succ] at hc
  have hl:i<l.evs.length:=by
   have:=(List.getElem?_eq_some_iff.1 hc).1
   rwa [evLs_length] at this
  rw [evLs_get _ _ _ _ _ hl] at hc
  injection hc with hc
  rw [← hc]
  rw [show ((i+2:Nat):Int) - 1=1+i by omega]
  exact evL_len h1
 ·unfold linesB
  rw [List.length_cons,List.length_cons,evLs_length]
  omega
def Sc (ls:List (List UInt8)) (i q st:Nat):Prop:=q≤ls.length∧st=(flatL (ls.take q)).length∧st≤i∧(∀ c,ls[q]?=some c→i≤st+c.length)∧(q=ls.length→i=st)
theorem flat_split (ls:List (List UInt8)) (q:Nat) (c:List UInt8) (h:ls[q]?=some c):flatL ls=flatL (ls.take q) ++ (c ++ [10] ++ flatL (ls.drop (q+1))):=by
 have h2:q<ls.length:=(List.getElem?_eq_some_iff.1 h).1
 have h3:ls[q]=c:=(List.getElem?_eq_some_iff.1 h).2
 conv=>lhs;rw [← List.take_append_drop q ls,flatL_append,List.drop_eq_getElem_cons h2,flatL_cons,h3]
theorem Sc.step {ls:List (List UInt8)} (hk:LnOk ls) {i q st:Nat} (h:Sc ls i q st) (hi:i<(flatL ls).length) :
  ((flatL ls)[i]?≠some 10∧Sc ls (i+1) q st)∨((flatL ls)[i]?=some 10∧Sc ls (i+1) (q+1) (i+1)∧(2≤q→st+12≤i∧((flatL ls).drop st).take 3=t3 ((q:Int) - 1))):=by
 obtain⟨h1,h2,h3,h4,h5⟩:=h
 have hq:q<ls.length:=by
  by_cases e:q=ls.length
  ·have:=h5 e
   subst e
   rw [List.take_length] at h2
   omega
  ·omega
 have hc:=List.getElem?_eq_getElem hq
 have h6:=h4 _ hc
 have h7:=flat_split ls q _ hc
 have hno:=hk.no _ (List.getElem_mem hq)
 generalize hcc:ls[q]=c at *
 by_cases hlt:i<st+c.length
 ·refine .inl ⟨?_,h1,h2,by omega,fun c' hc'=>?_,fun e=>by omega⟩
  ·rw [h7,List.getElem?_append_right (by omega),List.append_assoc,List.getElem?_append_left (by omega)]
   intro e
   exact hno (List.mem_of_getElem? e)
  ·rw [hc] at hc'
   injection hc' with hc'
   subst hc'
   omega
 ·have hie:i=st+c.length:=by omega
  have hst:(flatL (ls.take (q+1))).length=i+1:=by
   rw [List.take_succ_eq_append_getElem hq,flatL_append,List.length_append,← h2,flatL_cons,hcc]
   simp [flatL]
   omega
  refine .inr ⟨?_,⟨by omega,hst.symm,Nat.le_refl _,fun c' _=>by omega,fun _=>rfl⟩,fun hq2=>?_⟩
  ·rw [h7,List.getElem?_append_right (by omega),List.append_assoc,List.getElem?_append_right (by omega)]
   rw [show i - (flatL (ls.take q)).length - c.length=0 by omega]
   rfl
  ·obtain⟨e1,e2⟩:=hk.ev q c hc hq2
   refine⟨by omega,?_⟩
   rw [h7,h2,List.drop_left,List.append_assoc,List.take_append_of_le_length (by omega)]
   exact e2
theorem Sc.end {ls:List (List UInt8)} {q st:Nat} (h:Sc ls (flatL ls).length q st):st=(flatL ls).length∧q=ls.length:=by
 obtain⟨h1,h2,h3,h4,h5⟩:=h
 by_cases e:q=ls.length
 ·exact⟨(h5 e).symm,e⟩
 ·have hq:q<ls.length:=by omega
  have hc:=List.getElem?_eq_getElem hq
  have h6:=h4 _ hc
  have h7:=congrArg List.length (flat_split ls q _ hc)
  rw [List.length_append,List.length_append,List.length_append,List.length_singleton] at h7
  omega
end Go.Proofs.YtgbiodnfpbhjiaaGreatDoor

namespace Go.Proofs.YtgbiodnfpbhjiaaGreatDoor
open Go.RowKit Go.Lib
set_option linter.unusedSimpArgs false
set_option linter.unusedVariables false
theorem validD_idle (p:Addr) (w:World) :
  CallsD Tryz.prog 34 #[.pointer (some p)] .returning w fun e u' w'=>e=.returned (.tuple #[])∧u'=.returning∧w'=w:=by
 refine callsD_of_wpS Tryz.func34 rfl fun c₀ cs hu=>?_
 apply wpS_seq
 apply wpS_region
 simp [wpOpsS,go_sem,recoverD,hu,Tryz.ntmps34,Exit.thenS]
 refine wpS_cond (t:=false) (by simp [Act.eval,Array.replicate]) ?_
 simp only [Bool.false_eq_true,if_false]
 refine wpS_of_wp (wp_skip ?_)
 cases c₀
 simp_all [bodyPostS,results,Tryz.results34]
theorem formatD_idle (p q:Addr) (w:World) :
  CallsD Tryz.prog 58 #[.pointer (some p),.pointer (some q)] .returning w fun e u' w'=>e=.returned (.tuple #[])∧u'=.returning∧w'=w:=by
 refine callsD_of_wpS Tryz.func58 rfl fun c₀ cs hu=>?_
 apply wpS_seq
 apply wpS_region
 simp [wpOpsS,go_sem,recoverD,hu,Tryz.ntmps58,Exit.thenS]
 refine wpS_cond (t:=false) (by simp [Act.eval,Array.replicate]) ?_
 simp only [Bool.false_eq_true,if_false]
 refine wpS_of_wp (wp_skip ?_)
 cases c₀
 simp_all [bodyPostS,results,Tryz.results58]
theorem parseD_idle (p q:Addr) (w:World) :
  CallsD Tryz.prog 66 #[.pointer (some p),.pointer (some q)] .returning w fun e u' w'=>e=.returned (.tuple #[])∧u'=.returning∧w'=w:=by
 refine callsD_of_wpS Tryz.func66 rfl fun c₀ cs hu=>?_
 apply wpS_seq
 apply wpS_region
 simp [wpOpsS,go_sem,recoverD,hu,Tryz.ntmps66,Exit.thenS]
 refine wpS_cond (t:=false) (by simp [Act.eval,Array.replicate]) ?_
 simp only [Bool.false_eq_true,if_false]
 refine wpS_of_wp (wp_skip ?_)
 cases c₀
 simp_all [bodyPostS,results,Tryz.results66]
theorem trackD_idle (p q:Addr) (w:World) :
  CallsD Tryz.prog 41 #[.pointer (some p),.pointer (some q)] .returning w fun e u' w'=>e=.returned (.tuple #[])∧u'=.returning∧w'=w:=by
 refine callsD_of_wpS Tryz.func41 rfl fun c₀ cs hu=>?_
 apply wpS_seq
 apply wpS_region
 simp [wpOpsS,go_sem,recoverD,hu,Tryz.ntmps41,Exit.thenS]
 refine wpS_cond (t:=false) (by simp [Act.eval,Array.replicate]) ?_
 simp only [Bool.false_eq_true,if_false]
 refine wpS_of_wp (wp_skip ?_)
 cases c₀
 simp_all [bodyPostS,results,Tryz.results41]
theorem ofD_idle (p q:Addr) (w:World) :
  CallsD Tryz.prog 49 #[.pointer (some p),.pointer (some q)] .returning w fun e u' w'=>e=.returned (.tuple #[])∧u'=.returning∧w'=w:=by
 refine callsD_of_wpS Tryz.func49 rfl fun c₀ cs hu=>?_
 apply wpS_seq
 apply wpS_region
 simp [wpOpsS,go_sem,recoverD,hu,Tryz.ntmps49,Exit.thenS]
 refine wpS_cond (t:=false) (by simp [Act.eval,Array.replicate]) ?_
 simp only [Bool.false_eq_true,if_false]
 refine wpS_of_wp (wp_skip ?_)
 cases c₀
 simp_all [bodyPostS,results,Tryz.results49]
set_option maxRecDepth 20000 in
set_option maxHeartbeats 4000000 in
theorem evalid_any (l:El) (v:Value) (w:World) (h:ElR w v l):Calls Tryz.prog 13 #[l.val v] w fun e w'=>e=.returned (.bool (vEl l))∧Gr w w':=by
 obtain⟨title,base,drop,evs⟩:=l
 unfold El.val
 simp only
 have hmf:=hmf_any Tryz.prog
 have hnm:=h.r
 have hnt:=h.t
 have hn:=h.n
 simp only at hnm hnt hn
 obtain⟨a,cap,hv,ha⟩:=h.evs.shape
 subst hv
 simp only at ha ⊢
 clear h
 have hnew:=(Cel.new w #[.string title,.int .i64 base,.bool drop,.slice a evs.length cap] 24).alloc (.cells #[.bool false] 4)
 have hres:=Cel.new (w.alloc (.cells #[.string title,.int .i64 base,.bool drop,.slice a evs.length cap] 24)) #[.bool false] 4
 rw [show (w.alloc (.cells #[.string title,.int .i64 base,.bool drop,.slice a evs.length cap] 24)).heap.size=w.heap.size+1 by simp] at hres
 unfold vEl
 simp only
 cases ho:C19.okB base drop with
 | false=>
  have HD:Hid (∀ w',Calls Tryz.prog 35 #[.int .i64 base,.bool drop] w' fun e w''=>e=.returned (.tuple #[.int .i64 0,.int .i64 1])∧w'=w''):=fun w'=>C19.day_no base drop w' ho
  clear ha ho hnew hres
  go_enter_defers Tryz.func13,Tryz.ntmps13
  go_wp2_with (go_at_call 35;(with_reducible refine (HD.out _).mono ?_);rintro e w1 ⟨rfl,rfl⟩)
  refine leaves_cons (f:=34) (args:=#[.pointer (some ⟨w.heap.size+1,0,none⟩)]) (by simp) (by simp [go_sem]) ?_
  refine (validD_idle _ _).mono ?_
  rintro e u' w'' ⟨rfl,rfl,rfl⟩
  simp [Leaves,settle,results,Tryz.results13,go_sem,go_sem]
  exact (by repeat (first | with_reducible exact Gr.refl _ | with_reducible assumption | refine Gr.setCell ?_ (by first | omega | (simp;done) | (simp;omega)) _ | refine Gr.alloc ?_ _ | refine Gr.drew ?_ | refine Gr.drewN ?_ _ | refine Gr.trans ?_ (by with_reducible assumption)))
 | true=>
  obtain⟨d0,d1⟩:=day_bounds ho
  have HD:Hid (∀ w',Calls Tryz.prog 35 #[.int .i64 base,.bool drop] w' fun e w''=>e=.returned (.tuple #[.int .i64 (C19.dayN base drop),.int .i64 0])∧w'=w''):=fun w'=>C19.day_yes base drop w' ho
  have HL:Hid (∀ w',Calls Tryz.prog 36 #[.string title] w' fun e w''=>e=.returned (.bool (vLine title))∧Gr w' w''):=fun w'=>title_any title w' hnt
  have HE:Hid (∀ (e:Ev) (least:Int) w',0≤least→e∈evs→Calls Tryz.prog 37 #[e.val,.int .i64 least,.int .i64 (C19.dayN base drop)] w' fun en w''=>en=.returned (.bool (vEv e least (C19.dayN base drop)))∧Gr w' w''):=fun e least w' h0 he=>vevent_any e least _ w' h0 d1 (hnm e he)
  generalize C19.dayN base drop=day at *
  rw [Bool.true_and]
  clear ho
  cases hl:vLine title with
  | false=>
   rw [hl] at HL
   clear ha HE hl
   go_enter_defers Tryz.func13,Tryz.ntmps13
   go_wp2_with (first
    | (go_at_call 35;(with_reducible refine (HD.out _).mono ?_);rintro e w1 ⟨rfl,rfl⟩)
    | (go_at_call 36;(with_reducible refine (HL.out _).mono ?_);rintro e w1 ⟨rfl,hg1⟩;have k1:=(hres.gr hg1).lt;obtain⟨k2,k3⟩:=(hres.gr hg1).one))
   refine leaves_cons (f:=34) (args:=#[.pointer (some ⟨w.heap.size+1,0,none⟩)]) (by simp) (by simp [go_sem]) ?_
   refine (validD_idle _ _).mono ?_
   rintro e u' w'' ⟨rfl,rfl,rfl⟩
   simp [Leaves,settle,results,Tryz.results13,go_sem,k2]
   exact (by repeat (first | with_reducible exact Gr.refl _ | with_reducible assumption | refine Gr.setCell ?_ (by first | omega | (simp;done) | (simp;omega)) _ | refine Gr.alloc ?_ _ | refine Gr.drew ?_ | refine Gr.drewN ?_ _ | refine Gr.trans ?_ (by with_reducible assumption)))
  | true=>
   rw [hl] at HL
   rw [Bool.true_and]
   clear hl
   by_cases hn9:999<evs.length
   ·rw [decide_eq_false (by omega:¬ evs.length≤999),Bool.false_and]
    have q9:decide (999<evs.length)=true:=decide_eq_true hn9
    clear ha HE
    go_enter_defers Tryz.func13,Tryz.ntmps13
    go_wp2_with (first
     | (go_at_call 35;(with_reducible refine (HD.out _).mono ?_);rintro e w1 ⟨rfl,rfl⟩)
     | (go_at_call 36;(with_reducible refine (HL.out _).mono ?_);rintro e w1 ⟨rfl,hg1⟩;have k1:=(hres.gr hg1).lt;obtain⟨k2,k3⟩:=(hres.gr hg1).one;have k4:=(hnew.gr hg1).lt;have k5:=((hnew.gr hg1).2 3 _ rfl).1))
    refine leaves_cons (f:=34) (args:=#[.pointer (some ⟨w.heap.size+1,0,none⟩)]) (by simp) (by simp [go_sem]) ?_
    refine (validD_idle _ _).mono ?_
    rintro e u' w'' ⟨rfl,rfl,rfl⟩
    simp [Leaves,settle,results,Tryz.results13,go_sem,k2]
    exact (by repeat (first | with_reducible exact Gr.refl _ | with_reducible assumption | refine Gr.setCell ?_ (by first | omega | (simp;done) | (simp;omega)) _ | refine Gr.alloc ?_ _ | refine Gr.drew ?_ | refine Gr.drewN ?_ _ | refine Gr.trans ?_ (by with_reducible assumption)))
   ·rw [decide_eq_true (by omega:evs.length≤999),Bool.true_and]
    have q9:decide (999<evs.length)=false:=decide_eq_false hn9
    obtain⟨R,hR⟩:∃ R,vEvs day 0 evs=R:=⟨_,rfl⟩
    rw [hR]
    have HS:Hid (vEvs day 0 (evs.drop 0)=R):=hR
    have ha:=Lib.hid ha
    clear hR
    go_enter_defers Tryz.func13,Tryz.ntmps13
    go_wp2_with (first
     | (go_at_call 35;(with_reducible refine (HD.out _).mono ?_);rintro e w1 ⟨rfl,rfl⟩)
     | (go_at_call 36;(with_reducible refine (HL.out _).mono ?_);rintro e w1 ⟨rfl,hg1⟩;have hr1:=hres.gr hg1;have k1:=hr1.lt;obtain⟨k2,k3⟩:=hr1.one;have k4:=(hnew.gr hg1).lt;have k5:=((hnew.gr hg1).2 3 _ rfl).1))
    have hw1:Gr w w1:=(((Gr.refl w).alloc _).alloc _).trans hg1
    clear k1 k2 k3 k4 k5 hg1 hnew hres
    go_loopw [5,34] (fun af i wr=>∃ (j:Nat) (x:Int),j≤evs.length∧i=.int .i64 j∧af=.int .i64 x∧0≤x∧Hid (vEvs day x (evs.drop j)=R)∧Gr w1 wr) (fun _ i _=>evs.length - (RowKit.intOf i).toNat)
    case atStart=>exact⟨0,0,Nat.zero_le _,rfl,rfl,Int.le_refl _,HS,Gr.refl _⟩
    case round=>
     obtain⟨j,x,h3,rfl,rfl,hx,hno,hg⟩:=hrel
     clear HS
     have hrr:=hr1.gr hg
     have k1:=hrr.lt
     obtain⟨k2,k3⟩:=hrr.one
     by_cases c1:j<evs.length
     ·have q6:decide (j<evs.length)=true:=decide_eq_true c1
      rcases ha.out with ha2 | ⟨b,o,rfl,hb,hc⟩
      ·omega
      have hx1:b<wr.heap.size:=Nat.lt_of_lt_of_le hb (hw1.trans hg).size
      have hd:=hno.out
      rw [vEvs_step c1] at hd
      obtain⟨e0,e1,e2,e3,e4,e5,e6,e7⟩:=ev_cells c1 hb (hw1.trans hg) hc
      have hmem:=List.getElem_mem c1
      have HEj:=fun w'=>HE.out evs[j] x w' hx hmem
      generalize evs[j]=c at hd e0 e1 e2 e3 e4 e5 e6 e7 HEj
      clear hc hmem
      unfold Ev.val at HEj
      have HEj:=Lib.hid HEj
      have hbox:=Cel.new wr #[.int .i64 c.k,.int .i64 c.p,.int .i64 c.fr,.string c.reel,.int .i64 c.i,.int .i64 c.o,.int .i64 c.f,.int .i64 c.t] 30
      have hrb:=hrr.alloc (.cells #[.int .i64 c.k,.int .i64 c.p,.int .i64 c.fr,.string c.reel,.int .i64 c.i,.int .i64 c.o,.int .i64 c.f,.int .i64 c.t] 30)
      have hgb:Gr wr (wr.alloc (.cells #[.int .i64 c.k,.int .i64 c.p,.int .i64 c.fr,.string c.reel,.int .i64 c.i,.int .i64 c.o,.int .i64 c.f,.int .i64 c.t] 30)):=(Gr.refl wr).alloc _
      cases hv:vEv c x day with
      | false=>
       rw [hv] at HEj hd
       have hV:Hid (R=false):=hd.symm
       clear hd hno hv
       go_wp2_with (go_at_call 37;(with_reducible refine (HEj.out _).mono ?_);rintro e w2 ⟨rfl,hg2⟩;have y1:=(hrb.gr hg2).lt;obtain⟨y2,y3⟩:=(hrb.gr hg2).one)
       rw [hV.out]
       refine leaves_cons (f:=34) (args:=#[.pointer (some ⟨w.heap.size+1,0,none⟩)]) (by simp) (by simp [go_sem]) ?_
       refine (validD_idle _ _).mono ?_
       rintro e u' w'' ⟨rfl,rfl,rfl⟩
       simp [Leaves,settle,results,Tryz.results13,go_sem,y2]
       exact Gr.setCell (hw1.trans ((hg.trans hgb).trans hg2)) (by simp) _
      | true=>
       rw [hv] at HEj hd
       have hV:Hid (vEvs day c.t (evs.drop (j+1))=R):=hd
       have hve:=vEv_iff.1 hv
       have ht:0≤c.t:=by have:=hve.l;have:=hve.ft;omega
       clear hd hno hv hve
       go_wp2_with (go_at_call 37;(with_reducible refine (HEj.out _).mono ?_);rintro e w2 ⟨rfl,hg2⟩;have y1:=(hbox.gr hg2).lt;have y2:=((hbox.gr hg2).2 7 _ rfl).1)
       go_roundw
       case rel=>exact⟨j+1,c.t,by omega,by go_num,rfl,ht,hV,(hg.trans hgb).trans hg2⟩
       case measure=>simp [RowKit.intOf];omega
     ·have q6:decide (j<evs.length)=false:=decide_eq_false c1
      have hV:Hid (R=true):=by
       have hd:=hno.out
       rw [List.drop_of_length_le (by omega)] at hd
       exact hd.symm
      clear hno
      go_wp2
      rw [hV.out]
      refine leaves_cons (f:=34) (args:=#[.pointer (some ⟨w.heap.size+1,0,none⟩)]) (by simp) (by simp [go_sem]) ?_
      refine (validD_idle _ _).mono ?_
      rintro e u' w'' ⟨rfl,rfl,rfl⟩
      simp [Leaves,settle,results,Tryz.results13,go_sem,k1,k2,k3]
      exact Gr.setCell (hw1.trans hg) (by simp) _
end Go.Proofs.YtgbiodnfpbhjiaaGreatDoor
