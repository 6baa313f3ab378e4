/-
  Plain law of edit lists: events that continue the one before them may be joined to it; the clips of a list without such events are packed.
  Conditions: none.
-/
import Derived.Test.YtgbiodnfpbhjiaaGreatDoorMathCa
namespace Go.Proofs.YtgbiodnfpbhjiaaGreatDoor
set_option linter.unusedVariables false
set_option linter.unusedSimpArgs false
def joinsE (x e:Ev):Bool:=decide (e.k=0∧e.f=x.t∧plS e.reel e.i=plS x.reel x.o)
def joinE (x e:Ev):Ev:=⟨x.k,x.p,x.fr,x.reel,x.i,e.o,x.f,e.t⟩
def mgGo:Ev→List Ev→List Ev
 | x,[]=>[x]
 | x,e :: l=>if joinsE x e then mgGo (joinE x e) l else x :: mgGo e l
def mgE:List Ev→List Ev
 | []=>[]
 | x :: l=>mgGo x l
def NoJ:List Ev→Prop
 | []=>True
 | [_]=>True
 | x :: e :: l=>joinsE x e=false∧NoJ (e :: l)
theorem mgGo_head (x:Ev) (l:List Ev):∃ y r,mgGo x l=y :: r∧y.k=x.k∧y.f=x.f∧y.reel=x.reel∧y.i=x.i:=by
 induction l generalizing x with
 | nil=>exact⟨x,[],rfl,rfl,rfl,rfl,rfl⟩
 | cons e l ih=>
  rw [mgGo]
  split
  ·obtain⟨y,r,h,h1,h2,h3,h4⟩:=ih (joinE x e)
   exact⟨y,r,h,h1,h2,h3,h4⟩
  ·exact⟨x,_,rfl,rfl,rfl,rfl,rfl⟩
theorem mgGo_noj (x:Ev) (l:List Ev):NoJ (mgGo x l):=by
 induction l generalizing x with
 | nil=>trivial
 | cons e l ih=>
  rw [mgGo]
  split
  ·exact ih _
  ·rename_i hj
   obtain⟨y,r,h,h1,h2,h3,h4⟩:=mgGo_head e l
   have:=ih e
   rw [h] at this ⊢
   refine⟨?_,this⟩
   unfold joinsE at hj ⊢
   rw [h1,h2,h3,h4]
   simpa using hj
theorem plS_eq {r r':ByteArray} {a a':Int} (h:plS r a=plS r' a'):(r.size=0∧r'.size=0)∨(r.size≠0∧r'.size≠0∧r=r'∧a=a'):=by
 unfold plS at h
 split at h
 ·rename_i h1
  split at h
  ·rename_i h2
   exact .inl ⟨h1,h2⟩
  ·have:=congrArg Sr.k h;simp [blkS] at this
 ·rename_i h1
  split at h
  ·have:=congrArg Sr.k h;simp [blkS] at this
  ·rename_i h2
   exact .inr ⟨h1,h2,(congrArg Sr.nm h :),(congrArg Sr.an h :)⟩
theorem plS_zero {r:ByteArray} (h:r.size=0) (a:Int):plS r a=blkS:=by unfold plS;rw [if_pos h]
theorem VE.join {x e:Ev} {n day:Int} (hx:VE x n day) (he:VE e x.t day) (hj:joinsE x e=true):VE (joinE x e) n day∧(∀ o,plS e.reel o=plS x.reel o):=by
 unfold joinsE at hj
 rw [decide_eq_true_eq] at hj
 obtain⟨j1,j2,j3⟩:=hj
 have e2:=he.ft
 have e3:=he.d
 have x1:=hx.l
 have x2:=hx.ft
 have x4:=hx.fr
 rcases plS_eq j3 with ⟨p1,p2⟩ | ⟨p1,p2,p3,p4⟩
 ·have hr:x.i=0∧e.o=0:=by
   rcases hx.rl with h | h
   ·rcases he.rl with h' | h'
    ·exact⟨h.2.1,h'.2.2⟩
    ·exact absurd p1 h'.1
   ·exact absurd p2 h.1
  exact⟨⟨hx.kd,x1,by show x.f<e.t;omega,e3,by show x.fr≤e.t - x.f;omega,.inl ⟨p2,hr.1,hr.2⟩⟩,fun o=>by rw [plS_zero p1,plS_zero p2]⟩
 ·have hr:nmB x.reel=true∧0≤x.i∧x.i<day∧x.o=x.i+(x.t - x.f)∧e.o=e.i+(e.t - e.f)∧e.o<day:=by
   rcases hx.rl with h | h
   ·exact absurd h.1 p2
   ·rcases he.rl with h' | h'
    ·exact absurd h'.1 p1
    ·exact⟨h.2.1,h.2.2.1,h.2.2.2.1,h.2.2.2.2.1,h'.2.2.2.2.1,h'.2.2.2.2.2⟩
  exact⟨⟨hx.kd,x1,by show x.f<e.t;omega,e3,by show x.fr≤e.t - x.f;omega,.inr ⟨p2,hr.1,hr.2.1,hr.2.2.1,by show e.o=x.i+(e.t - x.f);omega,hr.2.2.2.2.2⟩⟩,fun o=>by rw [p3]⟩
theorem mgGo_valid {day:Int}:∀ (l:List Ev) (x:Ev) (n:Int),VE x n day→vEvs day x.t l=true→vEvs day n (mgGo x l)=true
 | [],x,n,hx,_=>vEvs_cons.2 ⟨hx,rfl⟩
 | e :: l,x,n,hx,hl=>by
  obtain⟨he,hl⟩:=vEvs_cons.1 hl
  rw [mgGo]
  split
  ·rename_i hj
   exact mgGo_valid l (joinE x e) n (hx.join he hj).1 hl
  ·exact vEvs_cons.2 ⟨hx,mgGo_valid l e x.t he hl⟩
theorem evR_pos {e:Ev} (h:0<e.t - e.f - e.fr):evR e=[cutC (e.t - e.f - e.fr) (plS e.reel (e.i+e.fr))]:=by unfold evR;rw [if_neg (by omega)]
theorem evR_zero {e:Ev} (h:e.t - e.f - e.fr≤0):evR e=[]:=by unfold evR;rw [if_pos h]
theorem evC_cut {e:Ev} {n day:Int} {bf:Sr} (he:VE e n day) (hk:e.k=0):evC bf e=[cutC (e.t - e.f) (plS e.reel e.i)]:=by
 have hf:e.fr=0:=by rcases he.kd with h | h | h <;> omega
 have:=he.ft
 unfold evC evM
 rw [if_pos (by omega),evR_pos (by omega),hf]
 simp
theorem cutC_vl {x:Ev} {n day d:Int} (hx:VE x n day) (h0:0≤n) (hd:day≤5184000) (h1:1≤d) (h2:d≤2147483647) {a:Int} (ha:0≤a) (ha2:a≤1099511627776):VL (cutC d (plS x.reel a)):=
 ⟨⟨h1,h2⟩,plS_valid hx.reel ha ha2,.inl rfl,fun h=>by simp [cutC] at h⟩
theorem join_pk {x e:Ev} {n day:Int} {bf:Sr} {pre T:List Cl} (hx:VE x n day) (he:VE e x.t day) (hj:joinsE x e=true) (h0:0≤n) (hd:day≤5184000) (hb:vSr bf) (hp:∀ c∈pre,VC c) (ht:tot pre≤n) :
  pk (pre ++ (adds n bf x ++ (adds x.t (plS x.reel x.o) e ++ T)))=pk (pre ++ (adds n bf (joinE x e) ++ T)):=by
 have hj2:=hj
 unfold joinsE at hj2
 rw [decide_eq_true_eq] at hj2
 obtain⟨j1,j2,j3⟩:=hj2
 have e2:=he.ft
 have e3:=he.d
 have x1:=hx.l
 have x2:=hx.ft
 have x4:=hx.fr
 obtain⟨b1,b2,b3,b4,b5⟩:=hx.bounds h0
 have ha:adds x.t (plS x.reel x.o) e=[cutC (e.t - e.f) (plS x.reel x.o)]:=by
  unfold adds
  rw [if_neg (by omega),evC_cut he j1,j3]
 rw [ha]
 obtain⟨M,hM⟩:∃ M:List Cl,M=(if n<x.f then gapC (x.f - n) :: evM blkS x else evM bf x):=⟨_,rfl⟩
 have hA:adds n bf x=M ++ evR x:=by
  rw [hM];unfold adds evC;split <;> simp
 have hA2:adds n bf (joinE x e)=M ++ evR (joinE x e):=by
  rw [hM];unfold adds evC;show (if n<x.f then gapC (x.f - n) :: (evM blkS x ++ evR (joinE x e)) else evM bf x ++ evR (joinE x e))=_;split <;> simp
 have hval:∀ c∈M,VC c:=fun c hc=>adds_valid hx h0 hd hb c (by rw [hA];exact List.mem_append_left _ hc)
 have htot:tot M+tot (evR x)=x.t - n:=by rw [← tot_append,← hA];exact adds_tot hx
 rw [hA,hA2]
 have hxo:∀ r,x.t - x.f - x.fr=r→plS x.reel (x.i+x.fr+r)=plS x.reel x.o:=fun r hr=>by
  rcases hx.rl with h | h
  ·rw [plS_zero h.1,plS_zero h.1]
  ·congr 1;omega
 by_cases hr:0<x.t - x.f - x.fr
 ·have e1:evR (joinE x e)=[cutC (e.t - x.f - x.fr) (plS x.reel (x.i+x.fr))]:=evR_pos (e:=joinE x e) (by show 0<e.t - x.f - x.fr;omega)
  rw [evR_pos hr,e1]
  have hc:cont (cutC (x.t - x.f - x.fr) (plS x.reel (x.i+x.fr))) (cutC (e.t - e.f) (plS x.reel x.o))=true:=by
   unfold cont
   rw [Bool.or_eq_true]
   refine .inr (decide_eq_true ?_)
   unfold nxt cutC
   simp only [plS_mv x.reel (a:=x.i+x.fr) (n:=x.t - x.f - x.fr) (by omega) (by omega),hxo _ rfl,mvS_blk]
   rfl
  rw [evR_pos hr] at htot
  simp only [tot,cutC] at htot
  have hl:longer (cutC (x.t - x.f - x.fr) (plS x.reel (x.i+x.fr))) (cutC (e.t - e.f) (plS x.reel x.o)).len=cutC (e.t - x.f - x.fr) (plS x.reel (x.i+x.fr)):=by
   unfold longer cutC
   simp only [Cl.mk.injEq,and_true]
   omega
  have hlp:=tot_nonneg (fun c hc=>(hp c hc).vl)
  have:=pk_join (p:=pre ++ M) (q:=T) (cutC_vl hx h0 hd (d:=x.t - x.f - x.fr) (a:=x.i+x.fr) (by omega) (by omega) (by omega) (by omega)) (cutC_vl hx h0 hd (d:=e.t - e.f) (a:=x.o) (by omega) (by omega) (by omega) (by omega))
   (fun c hc=>by rcases List.mem_append.1 hc with h | h;exact (hp c h).vl;exact (hval c h).vl) (by rw [tot_append];simp only [cutC];omega) hc
  rw [hl] at this
  simp only [List.append_assoc,List.singleton_append] at this ⊢
  exact this
 ·have e1:evR (joinE x e)=[cutC (e.t - x.f - x.fr) (plS x.reel (x.i+x.fr))]:=evR_pos (e:=joinE x e) (by show 0<e.t - x.f - x.fr;omega)
  rw [evR_zero (by omega),e1,List.append_nil]
  have h1:=hxo 0 (by omega)
  rw [show x.i+x.fr+0=x.i+x.fr by omega] at h1
  rw [h1,show e.t - x.f - x.fr=e.t - e.f by omega]
  simp only [List.append_assoc,List.singleton_append]
theorem mg_pk {day:Int} (hd:day≤5184000):∀ (l:List Ev) (x:Ev) (n:Int) (bf:Sr) (pre:List Cl),VE x n day→vEvs day x.t l=true→0≤n→vSr bf→(∀ c∈pre,VC c)→tot pre≤n →
  pk (pre ++ trk n bf (x :: l))=pk (pre ++ trk n bf (mgGo x l))
 | [],x,n,bf,pre,_,_,_,_,_,_=>rfl
 | e :: l,x,n,bf,pre,hx,hl,h0,hb,hp,ht=>by
  obtain⟨he,hl⟩:=vEvs_cons.1 hl
  have x1:=hx.l
  have x2:=hx.ft
  rw [mgGo]
  split
  ·rename_i hj
   obtain⟨hjv,hro⟩:=hx.join he hj
   rw [← mg_pk hd l (joinE x e) n bf pre hjv hl h0 hb hp ht,trk_cons,trk_cons,trk_cons,join_pk hx he hj h0 hd hb hp ht,hro]
   rfl
  ·have hp':∀ c∈pre ++ adds n bf x,VC c:=fun c hc=>by
    rcases List.mem_append.1 hc with h | h
    ·exact hp c h
    ·exact adds_valid hx h0 hd hb c h
   have:=mg_pk hd l e x.t (plS x.reel x.o) (pre ++ adds n bf x) he hl (by omega) (hx.after h0 hd) hp' (by rw [tot_append,adds_tot hx];omega)
   rw [List.append_assoc,List.append_assoc] at this
   rw [trk_cons n bf x (e :: l),trk_cons n bf x (mgGo e l),this]
theorem mgE_pk {day:Int} (hd:day≤5184000) {l:List Ev} (h:vEvs day 0 l=true):pk (trk 0 blkS l)=pk (trk 0 blkS (mgE l)):=by
 cases l with
 | nil=>rfl
 | cons x l=>
  obtain⟨hx,hl⟩:=vEvs_cons.1 h
  exact mg_pk hd l x 0 blkS [] hx hl (Int.le_refl _) (.inl rfl) (fun c hc=>by cases hc) (Int.le_refl _)
theorem mgE_valid {day:Int} {l:List Ev} (h:vEvs day 0 l=true):vEvs day 0 (mgE l)=true:=by
 cases l with
 | nil=>rfl
 | cons x l=>
  obtain⟨hx,hl⟩:=vEvs_cons.1 h
  exact mgGo_valid l x 0 hx hl
theorem mgE_noj (l:List Ev):NoJ (mgE l):=by
 cases l with
 | nil=>trivial
 | cons x l=>exact mgGo_noj x l
theorem packed_append:∀ {a b:List Cl},Packed a→Packed b→(∀ x y,a.getLast?=some x→b.head?=some y→cont x y=false)→Packed (a ++ b)
 | [],b,_,hb,_=>hb
 | [x],[],_,_,_=>trivial
 | [x],y :: b,_,hb,h=>⟨h x y rfl rfl,hb⟩
 | x :: y :: a,b,ha,hb,h=>⟨ha.1,packed_append (a:=y :: a) ha.2 hb (fun u v hu hv=>h u v (by rw [List.getLast?_cons_cons];exact hu) hv)⟩
theorem cont_kind {c d:Cl} (h:c.kind≠d.kind):cont c d=false:=by
 cases hc:cont c d with
 | false=>rfl
 | true=>
  unfold cont at hc
  rw [Bool.or_eq_true,decide_eq_true_eq,decide_eq_true_eq] at hc
  rcases hc with ⟨h1,h2⟩ | hc
  ·omega
  ·exact absurd (congrArg Cl.kind hc :) h
theorem evC_packed {e:Ev} {n day:Int} {bf:Sr} (he:VE e n day):Packed (evC bf e):=by
 unfold evC evM evR
 split <;> split <;> try trivial
 refine⟨cont_kind ?_,trivial⟩
 rename_i h1 h2
 show e.k+1≠1
 rcases he.kd with h | h | h <;> omega
theorem evC_last {x:Ev} {n day:Int} {bf:Sr} (hx:VE x n day):(evC bf x).getLast?=some (if 0<x.t - x.f - x.fr then cutC (x.t - x.f - x.fr) (plS x.reel (x.i+x.fr)) else mixC x bf):=by
 have x2:=hx.ft
 have x4:=hx.fr
 unfold evC evM
 by_cases h:0<x.t - x.f - x.fr
 ·rw [evR_pos h,if_pos h,List.getLast?_append];rfl
 ·rw [evR_zero (by omega),if_neg h,List.append_nil,if_neg (by omega)];rfl
theorem evC_first {e:Ev} {n day:Int} {bf:Sr} (he:VE e n day):(evC bf e).head?=some (if e.k=0 then cutC (e.t - e.f) (plS e.reel e.i) else mixC e bf):=by
 by_cases h:e.k=0
 ·rw [evC_cut he h,if_pos h];rfl
 ·rw [if_neg h]
  unfold evC evM
  rw [if_neg (by rcases he.kd with h' | h' | h' <;> omega)]
  rfl
theorem next_cont {x e:Ev} {n day:Int} {bf bf':Sr} {y:Cl} (hx:VE x n day) (he:VE e x.t day) (h0:0≤n) (hd:day≤5184000) (hj:joinsE x e=false) (hy:(evC bf' e).head?=some y) (hf:e.f=x.t) {u:Cl} (hu:(evC bf x).getLast?=some u):cont u y=false:=by
 rw [evC_first he] at hy
 rw [evC_last hx] at hu
 injection hy with hy
 injection hu with hu
 have x1:=hx.l
 have x2:=hx.ft
 have x4:=hx.fr
 have x3:=hx.d
 obtain⟨b1,b2,b3,b4,b5⟩:=hx.bounds h0
 by_cases hk:e.k=0
 ·rw [if_pos hk] at hy
  by_cases hr:0<x.t - x.f - x.fr
  ·rw [if_pos hr] at hu
   cases hc:cont u y with
   | false=>rfl
   | true=>
    rw [← hu,← hy] at hc
    unfold cont at hc
    rw [Bool.or_eq_true,decide_eq_true_eq,decide_eq_true_eq] at hc
    rcases hc with ⟨h1,h2⟩ | hc
    ·simp [cutC] at h1
    ·have ha:mvS (plS x.reel (x.i+x.fr)) (x.t - x.f - x.fr)=plS e.reel e.i:=(congrArg Cl.a hc :)
     rw [plS_mv x.reel (by omega) (by omega)] at ha
     have:plS x.reel (x.i+x.fr+(x.t - x.f - x.fr))=plS x.reel x.o:=by
      rcases hx.rl with h | h
      ·rw [plS_zero h.1,plS_zero h.1]
      ·congr 1;omega
     rw [this] at ha
     unfold joinsE at hj
     rw [decide_eq_false_iff_not] at hj
     exact absurd ⟨hk,hf,ha.symm⟩ hj
  ·rw [if_neg hr] at hu
   rw [← hu,← hy]
   refine cont_kind ?_
   show x.k+1≠1
   rcases hx.kd with h | h | h <;> omega
 ·rw [if_neg hk] at hy
  by_cases hr:0<x.t - x.f - x.fr
  ·rw [if_pos hr] at hu
   rw [← hu,← hy]
   refine cont_kind ?_
   show (1:Int)≠e.k+1
   rcases he.kd with h | h | h <;> omega
  ·rw [if_neg hr] at hu
   cases hc:cont u y with
   | false=>rfl
   | true=>
    rw [← hu,← hy] at hc
    unfold cont at hc
    rw [Bool.or_eq_true,decide_eq_true_eq,decide_eq_true_eq] at hc
    have hkx:x.k=1∨x.k=2:=by rcases hx.kd with h | h | h <;> omega
    rcases hc with ⟨h1,h2⟩ | hc
    ·simp [mixC] at h1;omega
    ·have ho:(if shr (x.k+1) then (0:Int)+x.fr else 0)=0:=(congrArg Cl.off hc :)
     rw [if_pos (by unfold shr;exact decide_eq_true (by omega))] at ho
     rcases hx.kd with h | h | h <;> omega
theorem gap_cont {u:Cl} {m:Int} (h:u.kind≠0):cont u (gapC m)=false∧cont (gapC m) u=false:=⟨cont_kind (by simpa [gapC] using h),cont_kind (by simpa [gapC] using fun e=>h e.symm)⟩
theorem evC_kinds {e:Ev} {n day:Int} {bf:Sr} (he:VE e n day):∀ c∈evC bf e,c.kind≠0:=by
 intro c hc
 unfold evC evM evR at hc
 have:0≤e.k:=by rcases he.kd with h | h | h <;> omega
 rcases List.mem_append.1 hc with hc | hc
 ·split at hc
  ·cases hc
  ·rw [List.mem_singleton.1 hc];show e.k+1≠0;omega
 ·split at hc
  ·cases hc
  ·rw [List.mem_singleton.1 hc];show (1:Int)≠0;omega
theorem evC_some {e:Ev} {n day:Int} {bf:Sr} (he:VE e n day):∃ c r,evC bf e=c :: r:=by
 have h:=evC_first (bf:=bf) he
 cases hh:evC bf e with
 | nil=>rw [hh] at h;cases h
 | cons c r=>exact⟨c,r,rfl⟩
theorem trk_packed {day:Int} (hd:day≤5184000):∀ (l:List Ev) (x:Ev) (n:Int) (bf:Sr),VE x n day→vEvs day x.t l=true→0≤n→NoJ (x :: l)→Packed (evC bf x ++ trk x.t (plS x.reel x.o) l)
 | [],x,n,bf,hx,_,_,_=>by rw [trk,List.append_nil];exact evC_packed hx
 | e :: l,x,n,bf,hx,hl,h0,hj=>by
  obtain⟨he,hl⟩:=vEvs_cons.1 hl
  have x1:=hx.l
  have x2:=hx.ft
  have e1:=he.l
  have key:=fun b=>trk_packed hd l e x.t b he hl (by omega) hj.2
  refine packed_append (evC_packed hx) ?_ ?_
  ·rw [trk_cons]
   unfold adds
   split
   ·obtain⟨c,r,hc⟩:=evC_some (bf:=blkS) he
    have h1:=key blkS
    rw [hc] at h1 ⊢
    exact⟨(gap_cont (evC_kinds (bf:=blkS) he c (by rw [hc];exact List.mem_cons_self))).2,h1⟩
   ·exact key _
  ·intro u y hu hy
   rw [trk_cons] at hy
   unfold adds at hy
   split at hy
   ·injection hy with hy
    rw [← hy]
    exact (gap_cont (evC_kinds hx u (List.mem_of_getLast? hu))).1
   ·refine next_cont hx he h0 hd hj.1 (y:=y) (bf':=plS x.reel x.o) ?_ (by omega) hu
    obtain⟨c,r,hc⟩:=evC_some (bf:=plS x.reel x.o) he
    rw [hc] at hy ⊢
    exact hy
theorem trk_packed0 {day:Int} (hd:day≤5184000) {l:List Ev} (h:vEvs day 0 l=true) (hj:NoJ l):Packed (trk 0 blkS l):=by
 cases l with
 | nil=>trivial
 | cons x l=>
  obtain⟨hx,hl⟩:=vEvs_cons.1 h
  have key:=trk_packed hd l x 0 blkS hx hl (Int.le_refl _) hj
  rw [trk_cons]
  unfold adds
  split
  ·obtain⟨c,r,hc⟩:=evC_some (bf:=blkS) hx
   rw [hc] at key ⊢
   exact⟨(gap_cont (evC_kinds (bf:=blkS) hx c (by rw [hc];exact List.mem_cons_self))).2,key⟩
  ·exact key
theorem pk_trk {day:Int} (hd:day≤5184000) {l:List Ev} (h:vEvs day 0 l=true):pk (trk 0 blkS l)=trk 0 blkS (mgE l):=by
 rw [mgE_pk hd h,pk_of_packed (trk_packed0 hd (mgE_valid h) (mgE_noj l))]
def bfR:List Ev→Int→Sr
 | [],_=>blkS
 | x :: _,n=>if x.t=n then plS x.reel x.o else blkS
def cntE (x:Ev) (c:Cl):Bool:=decide (x.k≠0∧x.t - x.f=x.fr∧c.kind=1∧c.a=plS x.reel x.o∧c.gain=0∧c.ch=[])
def extE (x:Ev) (n:Int):Ev:=⟨x.k,x.p,x.fr,x.reel,x.i,if x.reel.size=0 then x.o else x.o+n,x.f,x.t+n⟩
def relB (s:Sr):Bool:=decide (s.k=0) || decide (s=plS s.nm s.an)
def relN (s:Sr):ByteArray:=if s.k=0 then noTx else s.nm
def relI (s:Sr):Int:=if s.k=0 then 0 else s.an
def mkE (k p fr:Int) (s:Sr) (n len:Int):Ev:=⟨k,p,fr,relN s,relI s,if (relN s).size=0 then 0 else relI s+len,n,n+len⟩
def okC (c:Cl):Bool:=decide (c.gain=0∧c.ch=[])
def evO (c:Cl) (bf:Sr) (n:Int):Option Ev:=
 if c.kind=1 then (if relB c.a && okC c then some (mkE 0 0 0 c.a n c.len) else none)
 else if c.kind=2∨c.kind=3 then (if c.off=0∧c.tot=c.len∧c.a=bf then (if relB c.b && okC c then some (mkE (c.kind - 1) c.par c.len c.b n c.len) else none) else none)
 else none
def ofS (acc:List Ev) (n:Int) (c:Cl):Option (List Ev):=
 if c.kind=0 then some acc else
 match acc with
 | []=>(evO c blkS n).map (fun e=>[e])
 | x :: r=>if x.t=n∧cntE x c=true then some (extE x c.len :: r) else (evO c (bfR (x :: r) n) n).map (fun e=>e :: x :: r)
def ofR:List Cl→List Ev→Int→Option (List Ev)
 | [],acc,_=>some acc
 | c :: l,acc,n=>(ofS acc n c).bind (fun a=>ofR l a (n+c.len))
def endA:List Ev→Int
 | []=>0
 | x :: _=>x.t
def bfA:List Ev→Sr
 | []=>blkS
 | x :: _=>plS x.reel x.o
theorem endE_rev (acc:List Ev):endE 0 acc.reverse=endA acc:=by
 cases acc with
 | nil=>rfl
 | cons x r=>rw [List.reverse_cons,endE_snoc];rfl
theorem bfE_rev (acc:List Ev):bfE blkS acc.reverse=bfA acc:=by
 cases acc with
 | nil=>rfl
 | cons x r=>rw [List.reverse_cons,bfE_snoc];rfl
theorem ba_empty {s:ByteArray} (h:s.size=0):s=noTx:=by
 obtain⟨⟨l⟩⟩:=s
 have:l=[]:=List.eq_nil_of_length_eq_zero h
 rw [this]
structure IE (x:Ev):Prop where
 kd:(x.k=0∧x.fr=0)∨((x.k=1∨x.k=2)∧1≤x.fr)
 ft:x.f<x.t
 fr:x.fr≤x.t - x.f
 io:(x.reel.size=0∧x.i=0∧x.o=0)∨(x.reel.size≠0∧x.o=x.i+(x.t - x.f))
theorem relB_pl {s:Sr} (hv:vSr s) (h:relB s=true):s=plS (relN s) (relI s):=by
 unfold relB at h
 rw [Bool.or_eq_true,decide_eq_true_eq,decide_eq_true_eq] at h
 rcases hv with rfl | hv
 ·rfl
 ·have hk:s.k≠0:=by have:=hv.k;omega
  rcases h with h | h
  ·exact absurd h hk
  ·unfold relN relI
   rw [if_neg hk,if_neg hk]
   exact h
theorem mkE_io (k p fr:Int) (s:Sr) (n len:Int):((mkE k p fr s n len).reel.size=0∧(mkE k p fr s n len).o=0)∨((mkE k p fr s n len).reel.size≠0∧(mkE k p fr s n len).o=(mkE k p fr s n len).i+len):=by
 unfold mkE
 simp only
 split
 ·rename_i h;exact .inl ⟨h,rfl⟩
 ·rename_i h;exact .inr ⟨h,rfl⟩
theorem nm_size {s:ByteArray} (h:nmB s=true):1≤s.size∧s.size≤32:=by
 unfold nmB at h
 rw [Bool.and_eq_true,Bool.and_eq_true,decide_eq_true_eq,decide_eq_true_eq] at h
 exact h.1
theorem rel_zero {s:Sr} (hv:vSr s) (h:(relN s).size=0):relI s=0:=by
 unfold relN at h
 unfold relI
 split at h
 ·rename_i hk;rw [if_pos hk]
 ·rename_i hk
  rcases hv with rfl | hv
  ·exact absurd rfl hk
  ·have:=nm_size hv.nm;omega
theorem evO_ie {c:Cl} {bf:Sr} {n:Int} {e:Ev} (hc:VC c) (h:evO c bf n=some e):IE e∧e.f=n∧e.t=n+c.len∧evC bf e=[c]:=by
 have hl:=hc.len
 unfold evO at h
 split at h
 ·rename_i hk
  split at h
  ·rename_i hr
   injection h with h
   rw [Bool.and_eq_true] at hr
   have hg:c.gain=0∧c.ch=[]:=of_decide_eq_true hr.2
   have hp:=relB_pl hc.a hr.1
   subst h
   refine⟨⟨.inl ⟨rfl,rfl⟩,by show n<n+c.len;omega,by show 0≤n+c.len - n;omega,?_⟩,rfl,rfl,?_⟩
   ·rcases mkE_io 0 0 0 c.a n c.len with ⟨h1,h2⟩ | ⟨h1,h2⟩
    ·exact .inl ⟨h1,rel_zero hc.a h1,h2⟩
    ·exact .inr ⟨h1,by rw [h2];show _=_+(n+c.len - n);omega⟩
   ·unfold evC evM
    rw [if_pos (by show (0:Int)≤0;omega),evR_pos (by show 0<n+c.len - n - 0;omega)]
    have hkd:=hc.kd
    obtain⟨len,kind,a,b,off,tt,par,tx,gain,ch⟩:=c
    simp only at hk hkd hg hp ⊢
    have hkd:b=blkS∧off=0∧tt=0∧par=0∧tx=noTx:=by
     rcases hkd with h | h | h | h | h | h
     ·have:=h.1;simp only at this;omega
     ·exact h.2
     all_goals (have:=h.1;simp only at this;omega)
    obtain⟨x1,x2,x3,x4,x5⟩:=hkd
    obtain⟨x6,x7⟩:=hg
    subst x1 x2 x3 x4 x5 x6 x7 hk
    unfold cutC mkE
    simp only [List.nil_append,List.cons.injEq,Cl.mk.injEq,and_true,true_and]
    refine⟨by omega,?_⟩
    rw [Int.add_zero]
    exact hp.symm
  ·cases h
 ·rename_i hk1
  split at h
  ·rename_i hk
   split at h
   ·rename_i ho
    split at h
    ·rename_i hr
     injection h with h
     rw [Bool.and_eq_true] at hr
     have hg:c.gain=0∧c.ch=[]:=of_decide_eq_true hr.2
     have hp:=relB_pl hc.b hr.1
     subst h
     refine⟨⟨.inr ⟨by show c.kind - 1=1∨c.kind - 1=2;omega,hl.1⟩,by show n<n+c.len;omega,by show c.len≤n+c.len - n;omega,?_⟩,rfl,rfl,?_⟩
     ·rcases mkE_io (c.kind - 1) c.par c.len c.b n c.len with ⟨h1,h2⟩ | ⟨h1,h2⟩
      ·exact .inl ⟨h1,rel_zero hc.b h1,h2⟩
      ·exact .inr ⟨h1,by rw [h2];show _=_+(n+c.len - n);omega⟩
     ·unfold evC evM
      rw [if_neg (by show ¬ c.len≤0;omega),evR_zero (by show n+c.len - n - c.len≤0;omega)]
      have hkd:=hc.kd
      obtain⟨len,kind,a,b,off,tt,par,tx,gain,ch⟩:=c
      simp only at hk hk1 hkd hg hp ho ⊢
      have hkt:tx=noTx:=by
       rcases hkd with h | h | h | h | h | h
       ·have:=h.1;simp only at this;omega
       ·have:=h.1;simp only at this;omega
       ·exact h.2.2.2
       ·exact h.2.2.2
       ·have:=h.1;simp only at this;omega
       ·have:=h.1;simp only at this;omega
      obtain⟨x6,x7⟩:=hg
      obtain⟨x1,x2,x3⟩:=ho
      subst x1 x2 x3 x6 x7 hkt
      unfold mixC mkE
      simp only [List.append_nil,List.cons.injEq,Cl.mk.injEq,and_true,true_and]
      exact⟨by omega,hp.symm⟩
    ·cases h
   ·cases h
  ·cases h
theorem ofS_ie {acc:List Ev} {n:Int} {c:Cl} {a:List Ev} (hacc:∀ x∈acc,IE x) (h1:endA acc≤n) (hc:VC c) (h:ofS acc n c=some a):(∀ x∈a,IE x)∧endA a≤n+c.len∧(c.kind≠0→endA a=n+c.len):=by
 have hl:=hc.len
 unfold ofS at h
 split at h
 ·rename_i hk
  injection h with h
  rw [← h]
  exact⟨hacc,by omega,fun h=>absurd hk h⟩
 ·cases acc with
  | nil=>
   simp only at h
   cases he:evO c blkS n with
   | none=>rw [he] at h;cases h
   | some e=>
    rw [he] at h
    injection h with h
    obtain⟨i1,i2,i3,i4⟩:=evO_ie hc he
    rw [← h]
    exact⟨fun x hx=>by rw [List.mem_singleton.1 hx];exact i1,by show e.t≤_;omega,fun _=>i3⟩
  | cons x r=>
   simp only at h
   have hx:=hacc x List.mem_cons_self
   have hr:∀ y∈r,IE y:=fun y hy=>hacc y (List.mem_cons_of_mem _ hy)
   split at h
   ·rename_i hb
    injection h with h
    rw [← h]
    have hcn:=hb.2
    unfold cntE at hcn
    rw [decide_eq_true_eq] at hcn
    refine⟨fun y hy=>?_,by show x.t+c.len≤_;omega,fun _=>by show x.t+c.len=_;omega⟩
    rcases List.mem_cons.1 hy with rfl | hy
    ·refine⟨hx.kd,by show x.f<x.t+c.len;have:=hx.ft;omega,by show x.fr≤x.t+c.len - x.f;omega,?_⟩
     unfold extE
     simp only
     rcases hx.io with hz | hz
     ·rw [if_pos hz.1];exact .inl hz
     ·rw [if_neg hz.1];exact .inr ⟨hz.1,by omega⟩
    ·exact hr y hy
   ·cases he:evO c (bfR (x :: r) n) n with
    | none=>rw [he] at h;cases h
    | some e=>
     rw [he] at h
     injection h with h
     obtain⟨i1,i2,i3,i4⟩:=evO_ie hc he
     rw [← h]
     refine⟨fun y hy=>?_,by show e.t≤_;omega,fun _=>i3⟩
     rcases List.mem_cons.1 hy with rfl | hy
     ·exact i1
     ·exact hacc y hy
theorem bfR_cons (x:Ev) (r:List Ev) (n:Int):bfR (x :: r) n=if x.t=n then plS x.reel x.o else blkS:=rfl
theorem relN_pl (r:ByteArray) (a:Int):relN (plS r a)=r:=by
 unfold plS
 split
 ·rename_i h
  rw [ba_empty h];rfl
 ·rfl
theorem relI_pl {r:ByteArray} {a:Int} (h:r.size≠0):relI (plS r a)=a:=by
 unfold plS
 rw [if_neg h];rfl
theorem relI_zero {r:ByteArray} {a:Int} (h:r.size=0):relI (plS r a)=0:=by
 rw [plS_zero h]
 rfl
theorem mkE_plS (k p fr:Int) (r:ByteArray) (a n len:Int) (ha:r.size=0→a=0):mkE k p fr (plS r a) n len=⟨k,p,fr,r,a,if r.size=0 then 0 else a+len,n,n+len⟩:=by
 unfold mkE
 rw [relN_pl]
 by_cases h:r.size=0
 ·rw [relI_zero h,ha h,if_pos h]
 ·rw [relI_pl h]
theorem VE.io {e:Ev} {n day:Int} (h:VE e n day):(e.reel.size=0→e.i=0)∧e.o=if e.reel.size=0 then 0 else e.i+(e.t - e.f):=by
 rcases h.rl with h | h
 ·exact⟨fun _=>h.2.1,by rw [if_pos h.1];exact h.2.2⟩
 ·exact⟨fun h'=>absurd h' h.1,by rw [if_neg h.1];exact h.2.2.2.2.1⟩
def lookB (e:Ev) (c d:Cl):Bool:=decide (0<e.fr∧d.kind=1∧d.a=mvS c.b c.len∧d.gain=0∧d.ch=[])
def ofL:List Cl→List Ev→Int→Sr→Option (List Ev)
 | [],acc,_,_=>some acc
 | [c],acc,n,bf=>if c.kind=0 then some acc else (evO c bf n).map (fun e=>e :: acc)
 | c :: d :: l,acc,n,bf=>if c.kind=0 then ofL (d :: l) acc (n+c.len) blkS else
  match evO c bf n with
  | none=>none
  | some e=>if lookB e c d then ofL l (extE e d.len :: acc) (n+c.len+d.len) (plS e.reel (extE e d.len).o) else ofL (d :: l) (e :: acc) (n+c.len) (plS e.reel e.o)
end Go.Proofs.YtgbiodnfpbhjiaaGreatDoor
