/-
  Plain law of the text of edit lists: how it is divided into lines and words, and what a reader of a text finds.
  Conditions: none.
-/
import Derived.Test.YtgbiodnfpbhjiaaGreatDoorWalkEg
import Derived.Lib.Split
import Derived.Lib.SplitLaws
import Derived.Lib.IndexMore
namespace Go.Proofs.YtgbiodnfpbhjiaaGreatDoor
open Go.RowKit Go.Lib
set_option linter.unusedSimpArgs false
set_option linter.unusedVariables false
theorem ecut_at (x:UInt8) (t a b:List UInt8) (h:∀ y∈a,y≠x):cut (a ++ x :: (t ++ b)) (x :: t)=(a,b,true):=by
 have hi:index (a ++ x :: (t ++ b)) (x :: t)=a.length:=by
  refine index_first (by simp) ?_ (fun j hj=>?_)
  ·unfold occAt
   rw [List.drop_left]
   rw [show x :: (t ++ b)=(x :: t) ++ b from rfl]
   exact List.isPrefixOf_iff_prefix.2 (List.prefix_append _ _)
  ·unfold occAt
   cases hp:(x :: t).isPrefixOf ((a ++ x :: (t ++ b)).drop j) with
   | false=>rfl
   | true=>
    rw [List.drop_append_of_le_length (by omega),List.drop_eq_getElem_cons hj] at hp
    simp only [List.cons_append,List.isPrefixOf,Bool.and_eq_true,beq_iff_eq] at hp
    exact absurd hp.1.symm (h _ (List.getElem_mem hj))
 unfold cut
 rw [hi,if_pos (by omega)]
 have e1:((a.length:Int)).toNat=a.length:=by omega
 rw [e1,List.take_left,← List.drop_drop,List.drop_left]
 rw [show x :: (t ++ b)=(x :: t) ++ b from rfl,List.drop_left]
theorem ecut_nl (a b:List UInt8) (h:∀ y∈a,y≠10):cut (a ++ 10 :: b) [10]=(a,b,true):=ecut_at 10 [] a b h
def jnL (x:UInt8):List (List UInt8)→List UInt8
 | []=>[]
 | [p]=>p
 | p :: q :: r=>p ++ x :: jnL x (q :: r)
theorem jnL_cons (x:UInt8) (p:List UInt8) {l:List (List UInt8)} (h:l≠[]):jnL x (p :: l)=p ++ x :: jnL x l:=by
 cases l with
 | nil=>exact absurd rfl h
 | cons q r=>rfl
theorem occ_one (s:List UInt8) (x:UInt8) (i:Nat):occAt s [x] i=true↔s[i]?=some x:=by
 unfold occAt
 cases h:s.drop i with
 | nil=>
  have:s[i]?=none:=by rw [List.getElem?_eq_none_iff];exact List.drop_eq_nil_iff.1 h
  rw [this];simp [List.isPrefixOf]
 | cons b l=>
  have:s[i]?=some b:=by
   have:=congrArg (fun z=>z[0]?) h
   simp only [List.getElem?_drop,Nat.add_zero,List.getElem?_cons_zero] at this
   exact this
  rw [this]
  simp [List.isPrefixOf]
  exact⟨fun e=>e.symm,fun e=>e.symm⟩
theorem index_no {s:List UInt8} {x:UInt8} (h:x∉s):index s [x]=-1:=by
 refine index_none fun j _=>?_
 cases ho:occAt s [x] j with
 | false=>rfl
 | true=>exact absurd (List.mem_of_getElem? ((occ_one s x j).1 ho)) h
theorem index_at {a b:List UInt8} {x:UInt8} (h:x∉a):index (a ++ x :: b) [x]=a.length:=by
 refine index_first (by simp) ((occ_one _ _ _).2 (by simp)) fun j hj=>?_
 cases ho:occAt (a ++ x :: b) [x] j with
 | false=>rfl
 | true=>
  have:=(occ_one _ _ _).1 ho
  rw [List.getElem?_append_left hj] at this
  exact absurd (List.mem_of_getElem? this) h
theorem split_jn (x:UInt8):∀ (ps:List (List UInt8)),ps≠[]→(∀ p∈ps,x∉p)→split (jnL x ps) [x]=ps
 | [],h,_=>absurd rfl h
 | [p],_,h=>by
  have hi:=index_no (h p (by simp))
  show split p [x]=[p]
  unfold split
  rw [count_miss hi]
  rfl
 | p :: q :: r,_,h=>by
  have hi:=index_at (b:=jnL x (q :: r)) (h p (by simp))
  have ih:=split_jn x (q :: r) (by simp) (fun p hp=>h p (List.mem_cons_of_mem _ hp))
  rw [jnL_cons x p (by simp)]
  unfold split at ih ⊢
  rw [count_hit (by simp) hi]
  have e:(p ++ x :: jnL x (q :: r)).drop (p.length+[x].length)=jnL x (q :: r):=by
   rw [List.length_singleton,← List.drop_drop,List.drop_left]
   rfl
  rw [e,Nat.add_comm]
  show splitK [x] 0 (_+1) _=_
  unfold splitK
  rw [hi,if_neg (by simp),show ((p.length:Int)).toNat=p.length by omega,e,ih,Nat.add_zero,List.take_left]
def dvG (x:UInt8) (c:List UInt8):List UInt8→List (List UInt8)
 | []=>[c]
 | b :: r=>if b=x then c :: dvG x [] r else dvG x (c ++ [b]) r
theorem dvG_piece (x:UInt8):∀ (p c r:List UInt8),x∉p→dvG x c (p ++ r)=dvG x (c ++ p) r
 | [],c,r,_=>by simp
 | b :: p,c,r,h=>by
  rw [List.cons_append,dvG,if_neg (fun e=>h (by simp [e])),dvG_piece x p (c ++ [b]) r (fun e=>h (List.mem_cons_of_mem _ e))]
  simp
theorem dvG_jn (x:UInt8):∀ (ps:List (List UInt8)),ps≠[]→(∀ p∈ps,x∉p)→dvG x [] (jnL x ps)=ps
 | [],h,_=>absurd rfl h
 | [p],_,h=>by
  have:=dvG_piece x p [] [] (h p (by simp))
  rw [List.append_nil] at this
  show dvG x [] p=[p]
  rw [this]
  rfl
 | p :: q :: r,_,h=>by
  rw [jnL_cons x p (by simp),dvG_piece x p [] _ (h p (by simp)),dvG,if_pos rfl,dvG_jn x (q :: r) (by simp) (fun p hp=>h p (List.mem_cons_of_mem _ hp))]
  rfl
theorem dvG_length (x:UInt8):∀ (l c:List UInt8),(dvG x c l).length≤l.length+1∧1≤(dvG x c l).length
 | [],c=>by simp [dvG]
 | b :: r,c=>by
  unfold dvG
  split
  ·have:=dvG_length x r []
   simp only [List.length_cons]
   omega
  ·have:=dvG_length x r (c ++ [b])
   simp only [List.length_cons]
   omega
theorem dvG_mem (x:UInt8):∀ (l c p:List UInt8),p∈dvG x c l→p.length≤c.length+l.length
 | [],c,p,h=>by
  unfold dvG at h
  rw [List.mem_singleton] at h
  rw [h];simp
 | b :: r,c,p,h=>by
  unfold dvG at h
  split at h
  ·rcases List.mem_cons.1 h with rfl | h
   ·omega
   ·have:=dvG_mem x r [] p h
    simp only [List.length_cons,List.length_nil] at *
    omega
  ·have:=dvG_mem x r (c ++ [b]) p h
   simp only [List.length_cons,List.length_nil,List.length_append] at *
   omega
def kdW (e:Ev):List (List UInt8):=if e.k=0 then [[67]] else if e.k=1 then [[68],t3 e.fr] else [[87,b8 (48+e.p)],t3 e.fr]
def labW (b:Int) (d:Bool) (e:Ev):List (List UInt8):=[labB e.i b d,labB e.o b d,labB e.f b d,labB e.t b d]
def evW (b:Int) (d:Bool) (num:Int) (e:Ev):List (List UInt8):=t3 num :: reelB e :: [86] :: (kdW e ++ labW b d e)
theorem evL_words (b:Int) (d:Bool) (num:Int) (e:Ev):evL b d num e=jnL 32 (evW b d num e):=by
 unfold evL evW kdB kdW labW
 split
 ·simp [jnL]
 ·split <;> simp [jnL]
theorem fmtB_lines (l:El):fmtB l=jnL 10 (linesB l ++ [[]]):=by
 have:∀ ls:List (List UInt8),flatL ls=jnL 10 (ls ++ [[]]):=by
  intro ls
  induction ls with
  | nil=>rfl
  | cons c r ih=>
   rw [flatL_cons,List.cons_append,jnL_cons 10 c (by simp),ih]
   simp
 exact this _
theorem b8_ne2 {x:Int} {y:UInt8} (h0:0≤x) (h1:x<256) (h:x≠(y.toNat:Int)):y≠b8 x:=by
 intro e
 have:=congrArg UInt8.toNat e
 unfold b8 at this
 simp [UInt8.toNat_ofNat] at this
 omega
theorem t3_no2 {n:Int} (h0:0≤n) (h1:n<1000):(32:UInt8)∉t3 n:=by
 unfold t3
 have h:((32:UInt8).toNat:Int)=32:=rfl
 simp only [List.mem_cons,List.not_mem_nil,or_false,not_or]
 exact⟨b8_ne2 (by omega) (by omega) (by omega),b8_ne2 (by omega) (by omega) (by omega),b8_ne2 (by omega) (by omega) (by omega)⟩
theorem labB_no2 {n b:Int} {d:Bool} (h:C19.okB b d=true):(32:UInt8)∉labB n b d:=by
 obtain⟨b1,b2,_,_⟩:=C19.okB_bounds h
 obtain⟨m1,m2,f1,f2⟩:=C19.l_bounds (n:=n) h
 unfold labB labS C19.fmtS C19.fmtL
 have h32:((32:UInt8).toNat:Int)=32:=rfl
 have q1:C19.lf n b d / b<60:=by
  refine Int.ediv_lt_of_lt_mul (by omega) ?_
  omega
 have q0:0≤C19.lf n b d / b:=Int.ediv_nonneg f1 (by omega)
 have r0:=Int.emod_nonneg (C19.lf n b d) (show b≠0 by omega)
 have r1:=Int.emod_lt_of_pos (C19.lf n b d) (show 0<b by omega)
 generalize C19.lf n b d / b=x at *
 generalize C19.lf n b d % b=y at *
 generalize C19.lm n b d=z at *
 simp only [List.map_cons,List.map_nil,List.mem_cons,List.not_mem_nil,or_false,not_or]
 refine⟨b8_ne2 (by omega) (by omega) (by omega),b8_ne2 (by omega) (by omega) (by omega),b8_ne2 (by omega) (by omega) (by omega),b8_ne2 (by omega) (by omega) (by omega),b8_ne2 (by omega) (by omega) (by omega),b8_ne2 (by omega) (by omega) (by omega),b8_ne2 (by omega) (by omega) (by omega),b8_ne2 (by omega) (by omega) (by omega),?_,b8_ne2 (by omega) (by omega) (by omega),b8_ne2 (by omega) (by omega) (by omega)⟩
 cases d <;> exact b8_ne2 (by decide) (by decide) (by decide)
theorem nm_no2 {s:ByteArray} (h:nmB s=true):(32:UInt8)∉s.data.toList:=by
 intro hm
 unfold nmB at h
 simp only [Bool.and_eq_true] at h
 have:=List.all_eq_true.1 h.2 32 hm
 exact absurd this (by decide)
theorem evW_no {b:Int} {d:Bool} {num:Int} {e:Ev} {least day:Int} (h:C19.okB b d=true) (hv:VE e least day) (h0:0≤num) (h1:num<1000):∀ p∈evW b d num e,(32:UInt8)∉p:=by
 have hr:(32:UInt8)∉reelB e:=by
  unfold reelB
  split
  ·decide
  ·rename_i hz
   rcases hv.reel with h | h
   ·exact absurd h hz
   ·exact nm_no2 h
 have hk:∀ p∈kdW e,(32:UInt8)∉p:=by
  unfold kdW
  have h32:((32:UInt8).toNat:Int)=32:=rfl
  rcases hv.kd with ⟨k0,_⟩ | ⟨k0,k1,k2,k3⟩ | ⟨k0,k1,k2,k3,k4⟩
  ·rw [if_pos k0]
   intro p hp
   rw [List.mem_singleton] at hp
   rw [hp];decide
  ·rw [if_neg (by omega),if_pos k0]
   intro p hp
   simp only [List.mem_cons,List.not_mem_nil,or_false] at hp
   rcases hp with rfl | rfl
   ·decide
   ·exact t3_no2 (by omega) (by omega)
  ·rw [if_neg (by omega),if_neg (by omega)]
   intro p hp
   simp only [List.mem_cons,List.not_mem_nil,or_false] at hp
   rcases hp with rfl | rfl
   ·simp only [List.mem_cons,List.not_mem_nil,or_false,not_or]
    exact⟨by decide,b8_ne2 (by omega) (by omega) (by omega)⟩
   ·exact t3_no2 (by omega) (by omega)
 intro p hp
 unfold evW labW at hp
 simp only [List.mem_cons,List.mem_append,List.not_mem_nil,or_false] at hp
 rcases hp with rfl | rfl | rfl | hp | rfl | rfl | rfl | rfl
 ·exact t3_no2 h0 h1
 ·exact hr
 ·decide
 ·exact hk p hp
 ·exact labB_no2 h
 ·exact labB_no2 h
 ·exact labB_no2 h
 ·exact labB_no2 h
theorem evL_split {b:Int} {d:Bool} {num:Int} {e:Ev} {least day:Int} (h:C19.okB b d=true) (hv:VE e least day) (h0:0≤num) (h1:num<1000):split (evL b d num e) [32]=evW b d num e∧dvG 32 [] (evL b d num e)=evW b d num e:=by
 rw [evL_words]
 exact⟨split_jn 32 _ (by unfold evW;simp) (evW_no h hv h0 h1),dvG_jn 32 _ (by unfold evW;simp) (evW_no h hv h0 h1)⟩
theorem lines_dv {l:El} (h:vEl l=true):dvG 10 [] (fmtB l)=linesB l ++ [[]]:=by
 rw [fmtB_lines]
 refine dvG_jn 10 _ (by simp) fun p hp=>?_
 rcases List.mem_append.1 hp with hp | hp
 ·exact (linesB_ok l h).1.no p hp
 ·rw [List.mem_singleton] at hp
  rw [hp];simp
def IsE (l:El) (b:Int) (s:List UInt8):Prop:=vEl l=true∧l.base=b∧fmtB l=s
def PeB (b:Int) (d:Bool) (line:List UInt8) (e:Ev) (ok:Bool):Prop:=∀ num x least,C19.okB b d=true→0≤num→num<1000→0≤least→VE x least (C19.dayN b d)→evL b d num x=line→ok=true∧e=x
def Jp (b:Int) (s:List UInt8) (title:ByteArray) (drop:Bool) (acc:List Ev) (rest:List UInt8):Prop:=∀ l,IsE l b s→l.title=title∧l.drop=drop∧∃ more,l.evs=acc ++ more∧rest=flatL (evLs b drop (1+acc.length) more)
theorem Jp.end {b:Int} {s:List UInt8} {title:ByteArray} {drop:Bool} {acc:List Ev} (h:Jp b s title drop acc []):∀ l,IsE l b s→l=⟨title,b,drop,acc⟩:=by
 intro l hl
 obtain⟨h1,h2,more,h3,h4⟩:=h l hl
 have:more=[]:=by
  cases more with
  | nil=>rfl
  | cons e r=>rw [evLs,flatL_cons] at h4;simp at h4
 subst this
 rw [List.append_nil] at h3
 obtain⟨t,bb,d,es⟩:=l
 obtain⟨_,hb,_⟩:=hl
 simp only at h1 h2 h3 hb
 rw [h1,h2,h3,hb]
theorem vEvs_split {day:Int}:∀ {a b:List Ev} {n:Int},0≤n→vEvs day n (a ++ b)=true→∃ m,0≤m∧vEvs day m b=true
 | [],b,n,h0,h=>⟨n,h0,h⟩
 | x :: a,b,n,h0,h=>by
  rw [List.cons_append] at h
  obtain⟨h1,h2⟩:=vEvs_cons.1 h
  exact vEvs_split (a:=a) (by have:=h1.l;have:=h1.ft;omega) h2
theorem Jp.step {b:Int} {s:List UInt8} {title:ByteArray} {drop:Bool} {acc:List Ev} {rest line rest':List UInt8} {f:Bool} {e:Ev} {ok:Bool} (h:Jp b s title drop acc rest) (hne:rest≠[]) (hc:cut rest [10]=(line,rest',f)) (he:PeB b drop line e ok) :
  (∀ l,IsE l b s→ok=true∧acc.length<999)∧Jp b s title drop (acc ++ [e]) rest':=by
 have key:∀ l,IsE l b s→l.title=title∧l.drop=drop∧ok=true∧acc.length<999∧∃ more,l.evs=(acc ++ [e]) ++ more∧rest'=flatL (evLs b drop (1+(acc ++ [e]).length) more):=by
  intro l hl
  obtain⟨h1,h2,more,h3,h4⟩:=h l hl
  obtain⟨hv,hb,hf⟩:=hl
  obtain⟨v1,v2,v3,v4⟩:=vEl_parts hv
  rw [hb,h2] at v1 v4
  rw [h3] at v3 v4
  cases more with
  | nil=>exact absurd h4 hne
  | cons x r=>
   obtain⟨m,hm0,hm⟩:=vEvs_split (by omega) v4
   obtain⟨hx,_⟩:=vEvs_cons.1 hm
   rw [List.length_append,List.length_cons] at v3
   have hno:=evL_no (num:=1+acc.length) v1 hx (by omega) (by omega)
   rw [evLs,flatL_cons,List.append_assoc,List.singleton_append] at h4
   rw [h4,ecut_nl _ _ (fun y hy e=>hno (e ▸ hy))] at hc
   injection hc with c1 c2
   injection c2 with c2 c3
   obtain⟨e1,e2⟩:=he (1+acc.length) x m v1 (by omega) (by omega) hm0 hx c1
   refine⟨h1,h2,e1,by omega,r,?_,?_⟩
   ·rw [h3,e2];simp
   ·rw [← c2,List.length_append,List.length_singleton]
    congr 2
 exact⟨fun l hl=>⟨(key l hl).2.2.1,(key l hl).2.2.2.1⟩,fun l hl=>by obtain⟨a1,a2,_,_,a3⟩:=key l hl;exact⟨a1,a2,a3⟩⟩
theorem Jp.start {b:Int} {s t1 s1 c1 s2:List UInt8} {f1 f2:Bool} (h1:cut s [10]=(t1,s1,f1)) (h2:cut s1 [10]=(c1,s2,f2)) :
  Jp b s ⟨(if ([84,73,84,76,69,58,32]:List UInt8).isPrefixOf t1 then t1.drop 7 else t1).toArray⟩ (decide (c1=fcmB true)) [] s2∧(∀ l,IsE l b s→t1=ttlB l.title∧c1=fcmB l.drop):=by
 have key:∀ l,IsE l b s→t1=ttlB l.title∧c1=fcmB l.drop∧s2=flatL (evLs b l.drop 1 l.evs):=by
  rintro l ⟨hv,hb,hf⟩
  have hok:=(linesB_ok l hv).1.no
  unfold fmtB linesB at hf
  have n1:(10:UInt8)∉ttlB l.title:=hok _ (by unfold linesB;simp)
  have n2:(10:UInt8)∉fcmB l.drop:=hok _ (by unfold linesB;simp)
  rw [flatL_cons,flatL_cons,hb] at hf
  rw [← hf,List.append_assoc,List.singleton_append,ecut_nl _ _ (fun y hy e=>n1 (e ▸ hy))] at h1
  injection h1 with e1 e2
  injection e2 with e2 _
  rw [← e2,List.append_assoc,List.singleton_append,ecut_nl _ _ (fun y hy e=>n2 (e ▸ hy))] at h2
  injection h2 with e3 e4
  injection e4 with e4 _
  exact⟨e1.symm,e3.symm,e4.symm⟩
 refine⟨fun l hl=>?_,fun l hl=>⟨(key l hl).1,(key l hl).2.1⟩⟩
 obtain⟨k1,k2,k3⟩:=key l hl
 have kd:decide (c1=fcmB true)=l.drop:=by
  rw [k2]
  cases l.drop with
  | true=>exact decide_eq_true rfl
  | false=>exact decide_eq_false (by decide)
 refine⟨?_,kd.symm,l.evs,rfl,?_⟩
 ·rw [k1]
  unfold ttlB
  simp [List.isPrefixOf]
 ·rw [kd];exact k3
def PlR (b:Int) (s:List UInt8) (l:El) (E:Int):Prop:=(E=0∧IsE l b s∧∀ l',IsE l' b s→l'=l)∨(E=3∧l=⟨⟨#[]⟩,0,false,[]⟩∧∀ l',¬ IsE l' b s)
theorem PlR.unique {b:Int} {s:List UInt8} {l m:El} {E F:Int} (h:PlR b s l E) (h':PlR b s m F):l=m∧E=F:=by
 rcases h with ⟨rfl,h,hu⟩ | ⟨rfl,rfl,h⟩
 ·rcases h' with ⟨rfl,h',_⟩ | ⟨rfl,rfl,h'⟩
  ·exact⟨(hu _ h').symm,rfl⟩
  ·exact absurd h (h' _)
 ·rcases h' with ⟨rfl,h',_⟩ | ⟨rfl,rfl,h'⟩
  ·exact absurd h' (h _)
  ·exact⟨rfl,rfl⟩
end Go.Proofs.YtgbiodnfpbhjiaaGreatDoor
