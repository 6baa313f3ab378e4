/-
  Plain law of edit lists: events that continue the one before them may be joined to it; the clips of a list without such events are packed.
  Conditions: none.
-/
import Derived.Test.YtnginfangeikpaaGreatDoorMathCa
import Derived.Test.YtnginfangeikpaaGreatDoorMem
import Derived.Deep.WholeRow
import Derived.Shelf.SlicesQ.Load
import Derived.Laws.CopyOwn
import Derived.Great.BuildSlice
namespace Go.Proofs.YtnginfangeikpaaGreatDoor
set_option linter.unusedVariables false
set_option linter.unusedSimpArgs false
def joinsE (x e:Ev):Bool:=decide (e.k=0∧e.f=x.t∧plS e.reel e.i=plS x.reel x.o)
def joinE (x e:Ev):Ev:=⟨x.k,x.p,x.fr,x.reel,x.i,e.o,x.f,e.t⟩
def mgGo:Ev→List Ev→List Ev
 | x,[]=>[x]
 | x,e :: l=>if joinsE x e then mgGo (joinE x e) l else x :: mgGo e l
def mgE:List Ev→List Ev
 | []=>[]
 | x :: l=>mgGo x l
def NoJ:List Ev→Prop
 | []=>True
 | [_]=>True
 | x :: e :: l=>joinsE x e=false∧NoJ (e :: l)
theorem mgGo_head (x:Ev) (l:List Ev):∃ y r,mgGo x l=y :: r∧y.k=x.k∧y.f=x.f∧y.reel=x.reel∧y.i=x.i:=by
 induction l generalizing x with
 | nil=>exact⟨x,[],rfl,rfl,rfl,rfl,rfl⟩
 | cons e l ih=>
  rw [mgGo]
  split
  ·obtain⟨y,r,h,h1,h2,h3,h4⟩:=ih (joinE x e)
   exact⟨y,r,h,h1,h2,h3,h4⟩
  ·exact⟨x,_,rfl,rfl,rfl,rfl,rfl⟩
theorem mgGo_noj (x:Ev) (l:List Ev):NoJ (mgGo x l):=by
 induction l generalizing x with
 | nil=>trivial
 | cons e l ih=>
  rw [mgGo]
  split
  ·exact ih _
  ·rename_i hj
   obtain⟨y,r,h,h1,h2,h3,h4⟩:=mgGo_head e l
   have:=ih e
   rw [h] at this ⊢
   refine⟨?_,this⟩
   unfold joinsE at hj ⊢
   rw [h1,h2,h3,h4]
   simpa using hj
theorem plS_eq {r r':ByteArray} {a a':Int} (h:plS r a=plS r' a'):(r.size=0∧r'.size=0)∨(r.size≠0∧r'.size≠0∧r=r'∧a=a'):=by
 unfold plS at h
 split at h
 ·rename_i h1
  split at h
  ·rename_i h2
   exact .inl ⟨h1,h2⟩
  ·have:=congrArg Sr.k h;simp [blkS] at this
 ·rename_i h1
  split at h
  ·have:=congrArg Sr.k h;simp [blkS] at this
  ·rename_i h2
   exact .inr ⟨h1,h2,(congrArg Sr.nm h :),(congrArg Sr.an h :)⟩
theorem plS_zero {r:ByteArray} (h:r.size=0) (a:Int):plS r a=blkS:=by unfold plS;rw [if_pos h]
theorem VE.join {x e:Ev} {n day:Int} (hx:VE x n day) (he:VE e x.t day) (hj:joinsE x e=true):VE (joinE x e) n day∧(∀ o,plS e.reel o=plS x.reel o):=by
 unfold joinsE at hj
 rw [decide_eq_true_eq] at hj
 obtain⟨j1,j2,j3⟩:=hj
 have e2:=he.ft
 have e3:=he.d
 have x1:=hx.l
 have x2:=hx.ft
 have x4:=hx.fr
 rcases plS_eq j3 with ⟨p1,p2⟩ | ⟨p1,p2,p3,p4⟩
 ·have hr:x.i=0∧e.o=0:=by
   rcases hx.rl with h | h
   ·rcases he.rl with h' | h'
    ·exact⟨h.2.1,h'.2.2⟩
    ·exact absurd p1 h'.1
   ·exact absurd p2 h.1
  exact⟨⟨hx.kd,x1,by show x.f<e.t;omega,e3,by show x.fr≤e.t - x.f;omega,.inl ⟨p2,hr.1,hr.2⟩⟩,fun o=>by rw [plS_zero p1,plS_zero p2]⟩
 ·have hr:nmB x.reel=true∧0≤x.i∧x.i<day∧x.o=x.i+(x.t - x.f)∧e.o=e.i+(e.t - e.f)∧e.o<day:=by
   rcases hx.rl with h | h
   ·exact absurd h.1 p2
   ·rcases he.rl with h' | h'
    ·exact absurd h'.1 p1
    ·exact⟨h.2.1,h.2.2.1,h.2.2.2.1,h.2.2.2.2.1,h'.2.2.2.2.1,h'.2.2.2.2.2⟩
  exact⟨⟨hx.kd,x1,by show x.f<e.t;omega,e3,by show x.fr≤e.t - x.f;omega,.inr ⟨p2,hr.1,hr.2.1,hr.2.2.1,by show e.o=x.i+(e.t - x.f);omega,hr.2.2.2.2.2⟩⟩,fun o=>by rw [p3]⟩
theorem mgGo_valid {day:Int}:∀ (l:List Ev) (x:Ev) (n:Int),VE x n day→vEvs day x.t l=true→vEvs day n (mgGo x l)=true
 | [],x,n,hx,_=>vEvs_cons.2 ⟨hx,rfl⟩
 | e :: l,x,n,hx,hl=>by
  obtain⟨he,hl⟩:=vEvs_cons.1 hl
  rw [mgGo]
  split
  ·rename_i hj
   exact mgGo_valid l (joinE x e) n (hx.join he hj).1 hl
  ·exact vEvs_cons.2 ⟨hx,mgGo_valid l e x.t he hl⟩
theorem evR_pos {e:Ev} (h:0<e.t - e.f - e.fr):evR e=[cutC (e.t - e.f - e.fr) (plS e.reel (e.i+e.fr))]:=by unfold evR;rw [if_neg (by omega)]
theorem evR_zero {e:Ev} (h:e.t - e.f - e.fr≤0):evR e=[]:=by unfold evR;rw [if_pos h]
theorem evC_cut {e:Ev} {n day:Int} {bf:Sr} (he:VE e n day) (hk:e.k=0):evC bf e=[cutC (e.t - e.f) (plS e.reel e.i)]:=by
 have hf:e.fr=0:=by rcases he.kd with h | h | h <;> omega
 have:=he.ft
 unfold evC evM
 rw [if_pos (by omega),evR_pos (by omega),hf]
 simp
theorem cutC_vl {x:Ev} {n day d:Int} (hx:VE x n day) (h0:0≤n) (hd:day≤5184000) (h1:1≤d) (h2:d≤2147483647) {a:Int} (ha:0≤a) (ha2:a≤1099511627776):VL (cutC d (plS x.reel a)):=
 ⟨⟨h1,h2⟩,plS_valid hx.reel ha ha2,.inl rfl,fun h=>by simp [cutC] at h⟩
theorem join_pk {x e:Ev} {n day:Int} {bf:Sr} {pre T:List Cl} (hx:VE x n day) (he:VE e x.t day) (hj:joinsE x e=true) (h0:0≤n) (hd:day≤5184000) (hb:vSr bf) (hp:∀ c∈pre,VC c) (ht:tot pre≤n) :
  pk (pre ++ (adds n bf x ++ (adds x.t (plS x.reel x.o) e ++ T)))=pk (pre ++ (adds n bf (joinE x e) ++ T)):=by
 have hj2:=hj
 unfold joinsE at hj2
 rw [decide_eq_true_eq] at hj2
 obtain⟨j1,j2,j3⟩:=hj2
 have e2:=he.ft
 have e3:=he.d
 have x1:=hx.l
 have x2:=hx.ft
 have x4:=hx.fr
 obtain⟨b1,b2,b3,b4,b5⟩:=hx.bounds h0
 have ha:adds x.t (plS x.reel x.o) e=[cutC (e.t - e.f) (plS x.reel x.o)]:=by
  unfold adds
  rw [if_neg (by omega),evC_cut he j1,j3]
 rw [ha]
 obtain⟨M,hM⟩:∃ M:List Cl,M=(if n<x.f then gapC (x.f - n) :: evM blkS x else evM bf x):=⟨_,rfl⟩
 have hA:adds n bf x=M ++ evR x:=by
  rw [hM];unfold adds evC;split <;> simp
 have hA2:adds n bf (joinE x e)=M ++ evR (joinE x e):=by
  rw [hM];unfold adds evC;show (if n<x.f then gapC (x.f - n) :: (evM blkS x ++ evR (joinE x e)) else evM bf x ++ evR (joinE x e))=_;split <;> simp
 have hval:∀ c∈M,VC c:=fun c hc=>adds_valid hx h0 hd hb c (by rw [hA];exact List.mem_append_left _ hc)
 have htot:tot M+tot (evR x)=x.t - n:=by rw [← tot_append,← hA];exact adds_tot hx
 rw [hA,hA2]
 have hxo:∀ r,x.t - x.f - x.fr=r→plS x.reel (x.i+x.fr+r)=plS x.reel x.o:=fun r hr=>by
  rcases hx.rl with h | h
  ·rw [plS_zero h.1,plS_zero h.1]
  ·congr 1;omega
 by_cases hr:0<x.t - x.f - x.fr
 ·have e1:evR (joinE x e)=[cutC (e.t - x.f - x.fr) (plS x.reel (x.i+x.fr))]:=evR_pos (e:=joinE x e) (by show 0<e.t - x.f - x.fr;omega)
  rw [evR_pos hr,e1]
  have hc:cont (cutC (x.t - x.f - x.fr) (plS x.reel (x.i+x.fr))) (cutC (e.t - e.f) (plS x.reel x.o))=true:=by
   unfold cont
   rw [Bool.or_eq_true]
   refine .inr (decide_eq_true ?_)
   unfold nxt cutC
   simp only [plS_mv x.reel (a:=x.i+x.fr) (n:=x.t - x.f - x.fr) (by omega) (by omega),hxo _ rfl,mvS_blk]
   rfl
  rw [evR_pos hr] at htot
  simp only [tot,cutC] at htot
  have hl:longer (cutC (x.t - x.f - x.fr) (plS x.reel (x.i+x.fr))) (cutC (e.t - e.f) (plS x.reel x.o)).len=cutC (e.t - x.f - x.fr) (plS x.reel (x.i+x.fr)):=by
   unfold longer cutC
   simp only [Cl.mk.injEq,and_true]
   omega
  have hlp:=tot_nonneg (fun c hc=>(hp c hc).vl)
  have:=pk_join (p:=pre ++ M) (q:=T) (cutC_vl hx h0 hd (d:=x.t - x.f - x.fr) (a:=x.i+x.fr) (by omega) (by omega) (by omega) (by omega)) (cutC_vl hx h0 hd (d:=e.t - e.f) (a:=x.o) (by omega) (by omega) (by omega) (by omega))
   (fun c hc=>by rcases List.mem_append.1 hc with h | h;exact (hp c h).vl;exact (hval c h).vl) (by rw [tot_append];simp only [cutC];omega) hc
  rw [hl] at this
  simp only [List.append_assoc,List.singleton_append] at this ⊢
  exact this
 ·have e1:evR (joinE x e)=[cutC (e.t - x.f - x.fr) (plS x.reel (x.i+x.fr))]:=evR_pos (e:=joinE x e) (by show 0<e.t - x.f - x.fr;omega)
  rw [evR_zero (by omega),e1,List.append_nil]
  have h1:=hxo 0 (by omega)
  rw [show x.i+x.fr+0=x.i+x.fr by omega] at h1
  rw [h1,show e.t - x.f - x.fr=e.t - e.f by omega]
  simp only [List.append_assoc,List.singleton_append]
theorem mg_pk {day:Int} (hd:day≤5184000):∀ (l:List Ev) (x:Ev) (n:Int) (bf:Sr) (pre:List Cl),VE x n day→vEvs day x.t l=true→0≤n→vSr bf→(∀ c∈pre,VC c)→tot pre≤n →
  pk (pre ++ trk n bf (x :: l))=pk (pre ++ trk n bf (mgGo x l))
 | [],x,n,bf,pre,_,_,_,_,_,_=>rfl
 | e :: l,x,n,bf,pre,hx,hl,h0,hb,hp,ht=>by
  obtain⟨he,hl⟩:=vEvs_cons.1 hl
  have x1:=hx.l
  have x2:=hx.ft
  rw [mgGo]
  split
  ·rename_i hj
   obtain⟨hjv,hro⟩:=hx.join he hj
   rw [← mg_pk hd l (joinE x e) n bf pre hjv hl h0 hb hp ht,trk_cons,trk_cons,trk_cons,join_pk hx he hj h0 hd hb hp ht,hro]
   rfl
  ·have hp':∀ c∈pre ++ adds n bf x,VC c:=fun c hc=>by
    rcases List.mem_append.1 hc with h | h
    ·exact hp c h
    ·exact adds_valid hx h0 hd hb c h
   have:=mg_pk hd l e x.t (plS x.reel x.o) (pre ++ adds n bf x) he hl (by omega) (hx.after h0 hd) hp' (by rw [tot_append,adds_tot hx];omega)
   rw [List.append_assoc,List.append_assoc] at this
   rw [trk_cons n bf x (e :: l),trk_cons n bf x (mgGo e l),this]
theorem mgE_pk {day:Int} (hd:day≤5184000) {l:List Ev} (h:vEvs day 0 l=true):pk (trk 0 blkS l)=pk (trk 0 blkS (mgE l)):=by
 cases l with
 | nil=>rfl
 | cons x l=>
  obtain⟨hx,hl⟩:=vEvs_cons.1 h
  exact mg_pk hd l x 0 blkS [] hx hl (Int.le_refl _) (.inl rfl) (fun c hc=>by cases hc) (Int.le_refl _)
theorem mgE_valid {day:Int} {l:List Ev} (h:vEvs day 0 l=true):vEvs day 0 (mgE l)=true:=by
 cases l with
 | nil=>rfl
 | cons x l=>
  obtain⟨hx,hl⟩:=vEvs_cons.1 h
  exact mgGo_valid l x 0 hx hl
theorem mgE_noj (l:List Ev):NoJ (mgE l):=by
 cases l with
 | nil=>trivial
 | cons x l=>exact mgGo_noj x l
theorem packed_append:∀ {a b:List Cl},Packed a→Packed b→(∀ x y,a.getLast?=some x→b.head?=some y→cont x y=false)→Packed (a ++ b)
 | [],b,_,hb,_=>hb
 | [x],[],_,_,_=>trivial
 | [x],y :: b,_,hb,h=>⟨h x y rfl rfl,hb⟩
 | x :: y :: a,b,ha,hb,h=>⟨ha.1,packed_append (a:=y :: a) ha.2 hb (fun u v hu hv=>h u v (by rw [List.getLast?_cons_cons];exact hu) hv)⟩
theorem cont_kind {c d:Cl} (h:c.kind≠d.kind):cont c d=false:=by
 cases hc:cont c d with
 | false=>rfl
 | true=>
  unfold cont at hc
  rw [Bool.or_eq_true,decide_eq_true_eq,decide_eq_true_eq] at hc
  rcases hc with ⟨h1,h2⟩ | hc
  ·omega
  ·exact absurd (congrArg Cl.kind hc :) h
theorem evC_packed {e:Ev} {n day:Int} {bf:Sr} (he:VE e n day):Packed (evC bf e):=by
 unfold evC evM evR
 split <;> split <;> try trivial
 refine⟨cont_kind ?_,trivial⟩
 rename_i h1 h2
 show e.k+1≠1
 rcases he.kd with h | h | h <;> omega
theorem evC_last {x:Ev} {n day:Int} {bf:Sr} (hx:VE x n day):(evC bf x).getLast?=some (if 0<x.t - x.f - x.fr then cutC (x.t - x.f - x.fr) (plS x.reel (x.i+x.fr)) else mixC x bf):=by
 have x2:=hx.ft
 have x4:=hx.fr
 unfold evC evM
 by_cases h:0<x.t - x.f - x.fr
 ·rw [evR_pos h,if_pos h,List.getLast?_append];rfl
 ·rw [evR_zero (by omega),if_neg h,List.append_nil,if_neg (by omega)];rfl
theorem evC_first {e:Ev} {n day:Int} {bf:Sr} (he:VE e n day):(evC bf e).head?=some (if e.k=0 then cutC (e.t - e.f) (plS e.reel e.i) else mixC e bf):=by
 by_cases h:e.k=0
 ·rw [evC_cut he h,if_pos h];rfl
 ·rw [if_neg h]
  unfold evC evM
  rw [if_neg (by rcases he.kd with h' | h' | h' <;> omega)]
  rfl
theorem next_cont {x e:Ev} {n day:Int} {bf bf':Sr} {y:Cl} (hx:VE x n day) (he:VE e x.t day) (h0:0≤n) (hd:day≤5184000) (hj:joinsE x e=false) (hy:(evC bf' e).head?=some y) (hf:e.f=x.t) {u:Cl} (hu:(evC bf x).getLast?=some u):cont u y=false:=by
 rw [evC_first he] at hy
 rw [evC_last hx] at hu
 injection hy with hy
 injection hu with hu
 have x1:=hx.l
 have x2:=hx.ft
 have x4:=hx.fr
 have x3:=hx.d
 obtain⟨b1,b2,b3,b4,b5⟩:=hx.bounds h0
 by_cases hk:e.k=0
 ·rw [if_pos hk] at hy
  by_cases hr:0<x.t - x.f - x.fr
  ·rw [if_pos hr] at hu
   cases hc:cont u y with
   | false=>rfl
   | true=>
    rw [← hu,← hy] at hc
    unfold cont at hc
    rw [Bool.or_eq_true,decide_eq_true_eq,decide_eq_true_eq] at hc
    rcases hc with ⟨h1,h2⟩ | hc
    ·simp [cutC] at h1
    ·have ha:mvS (plS x.reel (x.i+x.fr)) (x.t - x.f - x.fr)=plS e.reel e.i:=(congrArg Cl.a hc :)
     rw [plS_mv x.reel (by omega) (by omega)] at ha
     have:plS x.reel (x.i+x.fr+(x.t - x.f - x.fr))=plS x.reel x.o:=by
      rcases hx.rl with h | h
      ·rw [plS_zero h.1,plS_zero h.1]
      ·congr 1;omega
     rw [this] at ha
     unfold joinsE at hj
     rw [decide_eq_false_iff_not] at hj
     exact absurd ⟨hk,hf,ha.symm⟩ hj
  ·rw [if_neg hr] at hu
   rw [← hu,← hy]
   refine cont_kind ?_
   show x.k+1≠1
   rcases hx.kd with h | h | h <;> omega
 ·rw [if_neg hk] at hy
  by_cases hr:0<x.t - x.f - x.fr
  ·rw [if_pos hr] at hu
   rw [← hu,← hy]
   refine cont_kind ?_
   show (1:Int)≠e.k+1
   rcases he.kd with h | h | h <;> omega
  ·rw [if_neg hr] at hu
   cases hc:cont u y with
   | false=>rfl
   | true=>
    rw [← hu,← hy] at hc
    unfold cont at hc
    rw [Bool.or_eq_true,decide_eq_true_eq,decide_eq_true_eq] at hc
    have hkx:x.k=1∨x.k=2:=by rcases hx.kd with h | h | h <;> omega
    rcases hc with ⟨h1,h2⟩ | hc
    ·simp [mixC] at h1;omega
    ·have ho:(if shr (x.k+1) then (0:Int)+x.fr else 0)=0:=(congrArg Cl.off hc :)
     rw [if_pos (by unfold shr;exact decide_eq_true (by omega))] at ho
     rcases hx.kd with h | h | h <;> omega
theorem gap_cont {u:Cl} {m:Int} (h:u.kind≠0):cont u (gapC m)=false∧cont (gapC m) u=false:=⟨cont_kind (by simpa [gapC] using h),cont_kind (by simpa [gapC] using fun e=>h e.symm)⟩
theorem evC_kinds {e:Ev} {n day:Int} {bf:Sr} (he:VE e n day):∀ c∈evC bf e,c.kind≠0:=by
 intro c hc
 unfold evC evM evR at hc
 have:0≤e.k:=by rcases he.kd with h | h | h <;> omega
 rcases List.mem_append.1 hc with hc | hc
 ·split at hc
  ·cases hc
  ·rw [List.mem_singleton.1 hc];show e.k+1≠0;omega
 ·split at hc
  ·cases hc
  ·rw [List.mem_singleton.1 hc];show (1:Int)≠0;omega
theorem evC_some {e:Ev} {n day:Int} {bf:Sr} (he:VE e n day):∃ c r,evC bf e=c :: r:=by
 have h:=evC_first (bf:=bf) he
 cases hh:evC bf e with
 | nil=>rw [hh] at h;cases h
 | cons c r=>exact⟨c,r,rfl⟩
theorem trk_packed {day:Int} (hd:day≤5184000):∀ (l:List Ev) (x:Ev) (n:Int) (bf:Sr),VE x n day→vEvs day x.t l=true→0≤n→NoJ (x :: l)→Packed (evC bf x ++ trk x.t (plS x.reel x.o) l)
 | [],x,n,bf,hx,_,_,_=>by rw [trk,List.append_nil];exact evC_packed hx
 | e :: l,x,n,bf,hx,hl,h0,hj=>by
  obtain⟨he,hl⟩:=vEvs_cons.1 hl
  have x1:=hx.l
  have x2:=hx.ft
  have e1:=he.l
  have key:=fun b=>trk_packed hd l e x.t b he hl (by omega) hj.2
  refine packed_append (evC_packed hx) ?_ ?_
  ·rw [trk_cons]
   unfold adds
   split
   ·obtain⟨c,r,hc⟩:=evC_some (bf:=blkS) he
    have h1:=key blkS
    rw [hc] at h1 ⊢
    exact⟨(gap_cont (evC_kinds (bf:=blkS) he c (by rw [hc];exact List.mem_cons_self))).2,h1⟩
   ·exact key _
  ·intro u y hu hy
   rw [trk_cons] at hy
   unfold adds at hy
   split at hy
   ·injection hy with hy
    rw [← hy]
    exact (gap_cont (evC_kinds hx u (List.mem_of_getLast? hu))).1
   ·refine next_cont hx he h0 hd hj.1 (y:=y) (bf':=plS x.reel x.o) ?_ (by omega) hu
    obtain⟨c,r,hc⟩:=evC_some (bf:=plS x.reel x.o) he
    rw [hc] at hy ⊢
    exact hy
theorem trk_packed0 {day:Int} (hd:day≤5184000) {l:List Ev} (h:vEvs day 0 l=true) (hj:NoJ l):Packed (trk 0 blkS l):=by
 cases l with
 | nil=>trivial
 | cons x l=>
  obtain⟨hx,hl⟩:=vEvs_cons.1 h
  have key:=trk_packed hd l x 0 blkS hx hl (Int.le_refl _) hj
  rw [trk_cons]
  unfold adds
  split
  ·obtain⟨c,r,hc⟩:=evC_some (bf:=blkS) hx
   rw [hc] at key ⊢
   exact⟨(gap_cont (evC_kinds (bf:=blkS) hx c (by rw [hc];exact List.mem_cons_self))).2,key⟩
  ·exact key
theorem pk_trk {day:Int} (hd:day≤5184000) {l:List Ev} (h:vEvs day 0 l=true):pk (trk 0 blkS l)=trk 0 blkS (mgE l):=by
 rw [mgE_pk hd h,pk_of_packed (trk_packed0 hd (mgE_valid h) (mgE_noj l))]
def bfR:List Ev→Int→Sr
 | [],_=>blkS
 | x :: _,n=>if x.t=n then plS x.reel x.o else blkS
def okC (c:Cl):Bool:=decide (c.gain=0∧c.ch=[])
def endA:List Ev→Int
 | []=>0
 | x :: _=>x.t
def bfA:List Ev→Sr
 | []=>blkS
 | x :: _=>plS x.reel x.o
theorem endE_rev (acc:List Ev):endE 0 acc.reverse=endA acc:=by
 cases acc with
 | nil=>rfl
 | cons x r=>rw [List.reverse_cons,endE_snoc];rfl
theorem bfE_rev (acc:List Ev):bfE blkS acc.reverse=bfA acc:=by
 cases acc with
 | nil=>rfl
 | cons x r=>rw [List.reverse_cons,bfE_snoc];rfl
theorem bfR_cons (x:Ev) (r:List Ev) (n:Int):bfR (x :: r) n=if x.t=n then plS x.reel x.o else blkS:=rfl
end Go.Proofs.YtnginfangeikpaaGreatDoor

namespace Go.Proofs.YtnginfangeikpaaGreatDoor
open Go.RowKit Go.Lib
set_option linter.unusedVariables false
structure CM where
 c:Cl
 cv:Value
def Sr.cells (s:Sr):List Value:=[.int .i64 s.k,.string s.nm,.int .i64 s.an,.int .i64 s.ad,.int .i64 s.sn,.int .i64 s.sd,.bool s.sm]
def Sr.val (s:Sr):Value:=.agg #[.int .i64 s.k,.string s.nm,.int .i64 s.an,.int .i64 s.ad,.int .i64 s.sn,.int .i64 s.sd,.bool s.sm]
def CM.cells (m:CM):List Value:=[.int .i64 m.c.len,.int .i64 m.c.kind,.int .i64 m.c.a.k,.string m.c.a.nm,.int .i64 m.c.a.an,.int .i64 m.c.a.ad,.int .i64 m.c.a.sn,.int .i64 m.c.a.sd,.bool m.c.a.sm,
 .int .i64 m.c.b.k,.string m.c.b.nm,.int .i64 m.c.b.an,.int .i64 m.c.b.ad,.int .i64 m.c.b.sn,.int .i64 m.c.b.sd,.bool m.c.b.sm,.int .i64 m.c.off,.int .i64 m.c.tot,.int .i64 m.c.par,.string m.c.tx,.int .i64 m.c.gain,m.cv]
def CM.val (m:CM):Value:=.agg m.cells.toArray
theorem CM.len22 (m:CM):m.cells.length=22:=rfl
def intsV (xs:List Int):List Value:=xs.map fun x=>Value.int .i64 x
def ChR (w:World) (m:CM):Prop:=Rd w m.cv m.c.ch.length 1 (intsV m.c.ch)
theorem ChR.gr {w w':World} {m:CM} (hg:Gr w w') (h:ChR w m):ChR w' m:=Rd.gr hg h
theorem ChR.slice {w:World} {m:CM} (h:ChR w m):∃ a cap,m.cv=.slice a m.c.ch.length cap:=by
 obtain⟨_,a,cap,h1,_⟩:=h
 exact⟨a,cap,h1⟩
theorem ChR.one {w:World} {m:CM} (h:ChR w m):∀ v∈m.cells,v.oneCell'=true:=by
 obtain⟨a,cap,hv⟩:=h.slice
 intro v hm
 unfold CM.cells at hm
 simp only [List.mem_cons,List.not_mem_nil,or_false] at hm
 rcases hm with rfl | rfl | rfl | rfl | rfl | rfl | rfl | rfl | rfl | rfl | rfl | rfl | rfl | rfl | rfl | rfl | rfl | rfl | rfl | rfl | rfl | rfl <;> first | rfl | (rw [hv];rfl)
def cflat (cs:List CM):List Value:=cs.flatMap CM.cells
theorem cflat_length (cs:List CM):(cflat cs).length=cs.length * 22:=by
 induction cs with
 | nil=>rfl
 | cons c cs ih=>
  rw [show cflat (c :: cs)=c.cells ++ cflat cs from rfl,List.length_append,ih,CM.len22]
  simp
  omega
theorem cflat_append (a b:List CM):cflat (a ++ b)=cflat a ++ cflat b:=by unfold cflat;rw [List.flatMap_append]
theorem cflat_at (cs:List CM) (i:Nat) (hi:i<cs.length) (j:Nat) (hj:j<22):(cflat cs)[i * 22+j]?=cs[i].cells[j]?:=by
 induction cs generalizing i with
 | nil=>simp at hi
 | cons c cs ih=>
  rw [show cflat (c :: cs)=c.cells ++ cflat cs from rfl]
  have hl:c.cells.length=22:=rfl
  cases i with
  | zero=>
   rw [List.getElem?_append_left (by omega)]
   simp
  | succ i=>
   have h:=ih i (by simpa using hi)
   rw [List.getElem?_append_right (by omega),hl,show (i+1) * 22+j - 22=i * 22+j by omega,h]
   simp
structure TrR (w:World) (v:Value) (cs:List CM):Prop where
 rd:Rd w v cs.length 22 (cflat cs)
 ch:∀ c∈cs,ChR w c
theorem TrR.gr {w w':World} {v:Value} {cs:List CM} (hg:Gr w w') (h:TrR w v cs):TrR w' v cs:=⟨h.rd.gr hg,fun c hc=>(h.ch c hc).gr hg⟩
theorem TrR.nil (w:World):TrR w (.slice none 0 0) []:=⟨Rd.nil w 22,fun c hc=>by cases hc⟩
theorem TrR.shape {w:World} {v:Value} {cs:List CM} (h:TrR w v cs):∃ a cap,v=.slice a cs.length cap ∧
  (cs.length=0∨∃ b o,a=some ⟨b,o,none⟩∧b<w.heap.size∧∀ (i:Nat) (hi:i<cs.length) (j:Nat) (u:Value),cs[i].cells[j]?=some u→w.cell? ⟨b,o+i * 22+j,none⟩=some u):=by
 obtain⟨⟨_,a,cap,rfl,h0 | ⟨b,o,rfl,hb,hc⟩⟩,_⟩:=h
 ·exact⟨a,cap,rfl,.inl h0.1⟩
 ·refine⟨_,cap,rfl,.inr ⟨b,o,rfl,hb,fun i hi j u hu=>?_⟩⟩
  have hj:j<22:=(List.getElem?_eq_some_iff.1 hu).1
  rw [Nat.add_assoc]
  exact hc _ _ (by rw [cflat_at cs i hi j hj];exact hu)
theorem ld_row {P:Program} {w:World} {b q k:Nat} {l:List Value} (hk:l.length=k) (h:∀ (j:Nat) (u:Value),l[j]?=some u→w.cell? ⟨b,q+j,none⟩=some u) :
  Sem.run P (loadCellsFrom ⟨b,q,none⟩ 0 k #[]) w=.ok l.toArray w:=
 run_loadCellsFrom_list P w ⟨b,q,none⟩ l k hk fun j v hv=>by
  have:=h j v hv
  simpa [Addr.add_lit] using this
theorem ld_cel {P:Program} {w:World} {g k:Nat} {l:List Value} (hk:l.length=k) (h:Cel w g l) :
  Sem.run P (loadCellsFrom ⟨g,0,none⟩ 0 k #[]) w=.ok l.toArray w:=
 ld_row hk fun j u hu=>by rw [Nat.zero_add];exact (h.2 j u hu).1
theorem st_new {P:Program} (w:World) (t:TypeId) (c:Array Value) (l:List Value) (hi:(P.info? t).map (·.size)=some l.length) (ho:c.size=l.length) (h1:∀ v∈l,v.oneCell'=true) :
  (storeCells ⟨w.heap.size,0,none⟩ l 0).run P (w.alloc (.cells c t))=.ok () (w.alloc (.cells l.toArray t)):=by
 have:=run_storeCells_new (P:=P) w t c l.toArray (by simpa using hi) (by simpa using ho) (by simpa using h1)
 simpa using this
theorem st_blk {P:Program} {w:World} {g:Nat} {t:TypeId} {vs l:List Value} (h:Blk w g t vs) (hl:l.length=vs.length) (h1:∀ v∈l,v.oneCell'=true) :
  (storeCells ⟨g,0,none⟩ l 0).run P w=.ok () (w.setRow g l.toArray):=by
 have:=run_storeCells_from (P:=P) g t l 0 vs.toArray w h (by simp [hl]) h1
 simpa using this
theorem Blk.setRow {w:World} {g:Nat} {t:TypeId} {vs:List Value} (h:Blk w g t vs) (l:List Value):Blk (w.setRow g l.toArray) g t l:=setRow_heap w g _ _ t _ h
theorem Blk.setRow_other {w:World} {g b:Nat} {t:TypeId} {vs:List Value} (h:Blk w b t vs) (hb:b≠g) (l:Array Value):Blk (w.setRow g l) b t vs:=by
 unfold Blk
 rw [Go.setRow_other w g b l hb]
 exact h
theorem Gr.setRow {a w:World} (h:Gr a w) {g:Nat} (hg:a.heap.size≤g) (l:Array Value):Gr a (w.setRow g l):=below_setRow h hg l
theorem Blk.other {w:World} {b:Nat} {T:TypeId} {vs:List Value} (h:Blk w b T vs) {p:Addr} (hp:p.block≠b) (u:Value):Blk (w.setCell p u) b T vs:=by
 unfold Blk
 rw [Below.heap_setCell _ _ _ b (fun e=>hp e.symm)]
 exact h
theorem ld_blk {P:Program} {w:World} {g k:Nat} {t:TypeId} {l:List Value} (hk:l.length=k) (h:Blk w g t l) :
  Sem.run P (loadCellsFrom ⟨g,0,none⟩ 0 k #[]) w=.ok l.toArray w:=ld_cel hk h.cel
theorem grown_setRow (w:World) (g:Nat) (l:Array Value):w.grownBy (w.setRow g l) (some g):=
 ⟨rfl,rfl,rfl,by simp,fun k _ hk=>Go.setRow_other w g k l (fun e=>hk (by rw [e]))⟩
theorem Far.keep {base g:Nat} {e:TypeId} {W w:World} {v:Value} (h:Far base e W v) (hg:W.grownBy w (some g)) (hne:v.ownBlock≠some g):Far base e w v:=by
 intro k hk
 rcases h k hk with h1 | ⟨c2,t2,f2,h2,h3⟩
 ·exact .inl h1
 ·refine .inr ⟨c2,t2,f2,?_,h3⟩
  rw [hg.block k (Array.getElem?_eq_some_iff.1 h2).1 (fun e=>hne (by rw [hk,e]))]
  exact h2
theorem Far.up {b:Nat} {e:TypeId} {W:World} {lv:Value} (h:Far 0 e W lv):Far b e W lv:=fun k hk=>(h k hk).elim (fun h=>by omega) .inr
structure TrO (base:Nat) (W:World) (v:Value) (cs:List CM):Prop where
 own:W.ownsRow base 61 22 v cs.length (cflat cs)
 ch:∀ c∈cs,ChR W c∧Far 0 61 W c.cv
theorem TrO.nil (base:Nat) (W:World):TrO base W (.slice none 0 0) []:=⟨World.ownsRow_nil _ _ _ _,fun c hc=>by cases hc⟩
theorem TrO.read {base:Nat} {W:World} {v:Value} {cs:List CM} (h:TrO base W v cs):TrR W v cs:=⟨Rd.own h.own,fun c hc=>(h.ch c hc).1⟩
theorem TrO.gr {base:Nat} {W w:World} {v:Value} {cs:List CM} (hg:Gr W w) (h:TrO base W v cs):TrO base w v cs:=
 ⟨own_gr hg h.own,fun c hc=>⟨(h.ch c hc).1.gr hg,(h.ch c hc).2.gr hg⟩⟩
theorem TrO.less {b1 b2:Nat} {W:World} {v:Value} {cs:List CM} (h:TrO b2 W v cs) (hb:b1≤b2):TrO b1 W v cs:=by
 refine⟨⟨h.own.1,?_⟩,h.ch⟩
 rcases h.own.2 with h1 | ⟨g,cap,cur,e,hg,r⟩
 ·exact .inl h1
 ·exact .inr ⟨g,cap,cur,e,by omega,r⟩
theorem far_keep {base:Nat} {W w:World} {v:Value} {n size:Nat} {xs:List Value} {c:CM} (ho:W.ownsRow base 61 size v n xs) (hg:W.grownBy w v.ownBlock) (h1:ChR W c) (h2:Far 0 61 W c.cv):ChR w c∧Far 0 61 w c.cv:=by
 have hne:=(h2.up (b:=base)).ne ho
 refine⟨Rd.grown hg ?_ h1,fun k hk=>?_⟩
 ·rcases hne with h3 | h3
  ·exact .inr (.inl h3)
  ·exact .inr (.inr (.inr h3))
 ·rcases h2 k hk with h3 | ⟨c2,t2,f2,h3,h4⟩
  ·omega
  ·refine .inr ⟨c2,t2,f2,?_,h4⟩
   rw [hg.block k (Array.getElem?_eq_some_iff.1 h3).1 (by
    rcases hne with h5 | h5
    ·rw [← hk];exact h5
    ·rw [hk] at h5;cases h5)]
   exact h3
theorem TrO.app {base:Nat} {W w:World} {v v':Value} {cs:List CM} (c:CM) (h:TrO base W v cs) (hs:ChR W c) (hf:Far 0 61 W c.cv)
  (ho:w.ownsRow base 61 22 v' (cs.length+1) (cflat cs ++ c.cells)) (hg:W.grownBy w v.ownBlock):TrO base w v' (cs ++ [c]):=by
 refine⟨?_,fun d hd=>?_⟩
 ·rw [cflat_append,List.length_append,show cflat [c]=c.cells by simp [cflat]]
  exact ho
 ·rcases List.mem_append.1 hd with h1 | h1
  ·exact far_keep h.own hg (h.ch d h1).1 (h.ch d h1).2
  ·rw [List.mem_singleton.1 h1];exact far_keep h.own hg hs hf
theorem cflat_set:∀ (cs:List CM) (i:Nat) (hi:i<cs.length) (j:Nat) (u:Value) (m':CM),j<22→m'.cells=cs[i].cells.set j u→(cflat cs).set (i * 22+j) u=cflat (cs.set i m')
 | x :: cs,0,hi,j,u,m',hj,hc=>by
  have hl:x.cells.length=22:=rfl
  rw [show cflat (x :: cs)=x.cells ++ cflat cs from rfl,List.set_cons_zero,show cflat (m' :: cs)=m'.cells ++ cflat cs from rfl,List.set_append_left _ _ (by omega),hc]
  simp
 | x :: cs,i+1,hi,j,u,m',hj,hc=>by
  have hl:x.cells.length=22:=rfl
  rw [show cflat (x :: cs)=x.cells ++ cflat cs from rfl,List.set_cons_succ,show cflat (x :: cs.set i m')=x.cells ++ cflat (cs.set i m') from rfl,List.set_append_right _ _ (by omega),← cflat_set cs i (by simpa using hi) j u m' hj hc]
  rw [show (i+1) * 22+j - x.cells.length=i * 22+j by omega]
theorem TrO.set {base g cap:Nat} {w:World} {cs:List CM} (h:TrO base w (.slice (some ⟨g,0,none⟩) cs.length cap) cs) (i:Nat) (hi:i<cs.length) (j:Nat) (hj:j<22) (u:Value) (m':CM) (hc:m'.cells=cs[i].cells.set j u) (hv:m'.cv=cs[i].cv) (hch:m'.c.ch=cs[i].c.ch) :
  TrO base (w.setCell ⟨g,i * 22+j,none⟩ u) (.slice (some ⟨g,0,none⟩) (cs.set i m').length cap) (cs.set i m'):=by
 obtain⟨h1,h2⟩:=h.own.stored (i * 22+j) u
 rw [cflat_set cs i hi j u m' hj hc] at h1
 refine⟨by rw [List.length_set];exact h1,fun c hcm=>?_⟩
 have hold:∀ d∈cs,ChR (w.setCell ⟨g,i * 22+j,none⟩ u) d∧Far 0 61 (w.setCell ⟨g,i * 22+j,none⟩ u) d.cv:=fun d hd=>far_keep h.own h2 (h.ch d hd).1 (h.ch d hd).2
 rcases List.mem_or_eq_of_mem_set hcm with h3 | h3
 ·exact hold c h3
 ·obtain⟨q1,q2⟩:=hold _ (List.getElem_mem hi)
  rw [h3]
  unfold ChR at *
  rw [hv,hch]
  exact⟨q1,q2⟩
theorem bs_one {P:Program} {t e:TypeId} {n:Nat} (hu:P.underlying t=some (.slice e)) (hi:(P.info? e).map (fun i=>(i.zero.map fun z=>z.cells.size,i.size))=some (some n,n)) (h0:0<n) (h9:n≤16777216) (l:List Value) (hl:l.length=n) (w:World) :
  (Instr.buildSlice t 1 #[(0,.agg l.toArray)]).run P w=.ok (.slice (some ⟨w.heap.size,0,none⟩) 1 1) (w.alloc (.cells l.toArray e)):=by
 cases hq:P.info? e with
 | none=>simp [hq] at hi
 | some ie=>
  cases hz:ie.zero with
  | none=>simp [hq,hz] at hi
  | some z=>
   simp [hq,hz] at hi
   refine run_buildSlice w t e 1 _ _ ie z hu hq hz (by rw [hi.2];omega) (by rw [hi.2];omega) ?_
   have:=Great.fill_whole h0 [Value.agg l.toArray] ((Array.range (1 * ie.size)).map (z.cells[· % z.cells.size]!)) (fun v hv=>by rw [List.mem_singleton.1 hv];simpa [Value.cells] using hl) (by simp [hi.2])
   simpa [hi.2,Value.cells] using this
theorem wpList_bs1 {P:Program} {ops:Array Oper} {rest:List Oper} {o:Oper} {a:Act} {w:World} {Q:Exit→Act→World→Prop} (hg:o.guard=none) (t e:TypeId) (x:Operand) (ho:o.op=.buildSlice t 1 #[(0,x)]) (n:Nat)
  (hu:P.underlying t=some (.slice e)) (hi:(P.info? e).map (fun i=>(i.zero.map fun z=>z.cells.size,i.size))=some (some n,n)) (h0:0<n) (h9:n≤16777216) (l:List Value) (hl:l.length=n) (hx:a.eval x=.agg l.toArray)
  (h:wpList P ops Q rest (a.put o.dst (.slice (some ⟨w.heap.size,0,none⟩) 1 1)) (w.alloc (.cells l.toArray e))):wpList P ops Q (o :: rest) a w:=by
 cases hq:P.info? e with
 | none=>simp [hq] at hi
 | some ie=>
  cases hz:ie.zero with
  | none=>simp [hq,hz] at hi
  | some z=>
   simp [hq,hz] at hi
   refine wpList_buildSlice hg t e 1 _ ho _ ie z hu hq hz (by rw [hi.2];omega) (by rw [hi.2];omega) ?_ h
   have:=Great.fill_whole h0 [Value.agg l.toArray] ((Array.range (1 * ie.size)).map (z.cells[· % z.cells.size]!)) (fun v hv=>by rw [List.mem_singleton.1 hv];simpa [Value.cells] using hl) (by simp [hi.2])
   simpa [hi.2,Value.cells,hx] using this
end Go.Proofs.YtnginfangeikpaaGreatDoor
