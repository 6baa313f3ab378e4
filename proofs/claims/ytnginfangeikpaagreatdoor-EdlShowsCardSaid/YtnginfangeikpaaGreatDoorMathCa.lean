/-
  Plain law of clips: sources and how they move, when a clip continues another, and how a list of clips is packed.
  Conditions: none.
-/
import Derived.Test.YtnginfangeikpaaGreatDoorMathH
import Derived.Test.YtnginfangeikpaaGreatDoorShS
namespace Go.Proofs.YtnginfangeikpaaGreatDoor
set_option linter.unusedVariables false
set_option linter.unusedSimpArgs false
def nmc (b:UInt8):Bool:=decide (97≤b.toNat∧b.toNat≤122) || decide (48≤b.toNat∧b.toNat≤57) || decide (b.toNat=45) || decide (b.toNat=95) || decide (b.toNat=46)
def nmB (s:ByteArray):Bool:=decide (1≤s.size) && decide (s.size≤32) && s.data.toList.all nmc
structure Sr where
 k:Int
 nm:ByteArray
 an:Int
 ad:Int
 sn:Int
 sd:Int
 sm:Bool
 deriving DecidableEq
def blkS:Sr:=⟨0,⟨#[]⟩,0,0,0,0,false⟩
def mvX (s:Sr) (n:Int):Int:=s.an * s.sd+n * s.sn * s.ad
def mvY (s:Sr):Int:=s.ad * s.sd
def Sr.to (s:Sr) (n d:Int):Sr:=⟨s.k,s.nm,n,d,s.sn,s.sd,s.sm⟩
def mvS (s:Sr) (n:Int):Sr:=if s=blkS then s else s.to (rN (mvX s n) (mvY s)) (rD (mvX s n) (mvY s))
def bsS (s:Sr):Int:=s.ad / gc s.ad s.sd * s.sd
structure VS (s:Sr):Prop where
 k:s.k=1∨s.k=2
 nm:nmB s.nm=true
 a:vB s.an s.ad=true
 sp:vB s.sn s.sd=true
 a1:s.ad≤65536
 a2:-1099511627776 * s.ad≤s.an∧s.an≤1099511627776 * s.ad
 s1:s.sd≤65536
 s2:-1024 * s.sd≤s.sn∧s.sn≤1024 * s.sd
 b:bsS s≤65536
def vSr (s:Sr):Prop:=s=blkS∨VS s
theorem VS.ne {s:Sr} (h:VS s):s≠blkS:=fun e=>by
 have:=h.k
 rw [e] at this
 simp [blkS] at this
theorem le_mul_one {a b:Int} (ha:0≤a) (hb:1≤b):a≤a * b:=by
 have:=Int.mul_le_mul_of_nonneg_left hb ha
 omega
theorem lcm_facts {a d:Int} (ha:1≤a) (hd:1≤d):∃ g α δ:Int,gc a d=g∧1≤g∧a=α * g∧d=δ * g∧1≤α∧1≤δ∧a / gc a d * d=α * δ * g:=by
 obtain⟨g,hg⟩:∃ g,gc a d=g:=⟨_,rfl⟩
 have g1:1≤g:=by rw [← hg];exact gc_pos_left a d (by omega)
 obtain⟨α,hα⟩:=gc_dvd_left a d
 obtain⟨δ,hδ⟩:=gc_dvd_right a d
 rw [hg] at hα hδ ⊢
 have hα':a=α * g:=by rw [hα,Int.mul_comm]
 have hδ':d=δ * g:=by rw [hδ,Int.mul_comm]
 refine⟨g,α,δ,rfl,g1,hα',hδ',?_,?_,?_⟩
 ·by_cases h:1≤α
  ·exact h
  ·have:α * g≤0:=Int.mul_nonpos_of_nonpos_of_nonneg (by omega) (by omega)
   omega
 ·by_cases h:1≤δ
  ·exact h
  ·have:δ * g≤0:=Int.mul_nonpos_of_nonpos_of_nonneg (by omega) (by omega)
   omega
 ·rw [hα',Int.mul_ediv_cancel _ (by omega:g≠0),hδ',Int.mul_assoc]
theorem mv_base {s:Sr} (h:VS s) (n:Int):1≤bsS s∧bsS s≤65536∧0<mvY s ∧
  mvX s n * bsS s=(s.an * (bsS s / s.ad)+n * s.sn * (bsS s / s.sd)) * mvY s∧1≤bsS s / s.ad∧bsS s / s.ad≤65536∧1≤bsS s / s.sd∧bsS s / s.sd≤65536∧bsS s / s.ad * s.ad=bsS s∧bsS s / s.sd * s.sd=bsS s:=by
 obtain⟨a1,_,_⟩:=vB_inv h.a
 obtain⟨d1,_,_⟩:=vB_inv h.sp
 obtain⟨g,α,δ,hg,g1,hα,hδ,α1,δ1,hb⟩:=lcm_facts a1 d1
 have hb':bsS s=α * δ * g:=hb
 have e1:bsS s / s.ad=δ:=by
  rw [hb',hα,show α * δ * g=δ * (α * g) by grind]
  exact Int.mul_ediv_cancel _ (by rw [← hα];omega)
 have e2:bsS s / s.sd=α:=by
  rw [hb',hδ,show α * δ * g=α * (δ * g) by grind]
  exact Int.mul_ediv_cancel _ (by rw [← hδ];omega)
 have h1:1≤α * δ * g:=by
  have h0:0<α * δ:=Int.mul_pos (by omega) (by omega)
  have:0<α * δ * g:=Int.mul_pos h0 (by omega)
  omega
 have hαb:α≤s.ad:=by rw [hα];exact le_mul_one (by omega) g1
 have hδb:δ≤s.sd:=by rw [hδ];exact le_mul_one (by omega) g1
 have z1:=h.a1
 have z2:=h.s1
 refine⟨by rw [hb'];exact h1,h.b,Int.mul_pos (by omega) (by omega),?_,by omega,by omega,by omega,by omega,?_,?_⟩
 ·rw [e1,e2,hb']
  unfold mvX mvY
  rw [hα,hδ]
  grind
 ·rw [e1,hb',hα];grind
 ·rw [e2,hb',hδ];grind
theorem abs_mul_le {x y A B:Int} (h1:-A≤x) (h2:x≤A) (h3:-B≤y) (h4:y≤B) (hA:0≤A) (hB:0≤B):-(A * B)≤x * y∧x * y≤A * B:=by
 have m1:x.natAbs * y.natAbs≤A.natAbs * B.natAbs:=Nat.mul_le_mul (by omega) (by omega)
 rw [← Int.natAbs_mul,← Int.natAbs_mul] at m1
 have:=Int.mul_nonneg hA hB
 omega
theorem mv_num {s:Sr} (h:VS s) {n:Int} (n0:-4294967296≤n) (n1:n≤4294967296) :
  -72057594037927936 * 9≤s.an * (bsS s / s.ad)∧s.an * (bsS s / s.ad)≤72057594037927936 * 9∧-(4294967296 * (1024 * 65536))≤n * s.sn * (bsS s / s.sd)∧n * s.sn * (bsS s / s.sd)≤4294967296 * (1024 * 65536):=by
 obtain⟨b1,b2,b3,b4,b5,b6,b7,b8,b9,b10⟩:=mv_base h n
 obtain⟨a1,a2⟩:=h.a2
 obtain⟨s1,s2⟩:=h.s2
 obtain⟨β,hβ⟩:∃ β,bsS s / s.ad=β:=⟨_,rfl⟩
 obtain⟨σ,hσ⟩:∃ σ,bsS s / s.sd=σ:=⟨_,rfl⟩
 rw [hβ] at b5 b6 b9 ⊢
 rw [hσ] at b7 b8 b10 ⊢
 obtain⟨d1,_,_⟩:=vB_inv h.sp
 have k1:-(1099511627776 * s.ad) * β≤s.an * β:=Int.mul_le_mul_of_nonneg_right (by omega) (by omega)
 have k2:s.an * β≤1099511627776 * s.ad * β:=Int.mul_le_mul_of_nonneg_right (by omega) (by omega)
 have k3:1099511627776 * s.ad * β=1099511627776 * bsS s:=by rw [← b9];grind
 have k4:-(1099511627776 * s.ad) * β=-(1099511627776 * bsS s):=by rw [← b9];grind
 rw [k4] at k1
 rw [k3] at k2
 have j1:=abs_mul_le n0 n1 (B:=1024 * s.sd) (by omega) (by omega) (by omega) (by omega) (x:=n) (y:=s.sn)
 have j2:=abs_mul_le (x:=n * s.sn) (y:=σ) (A:=4294967296 * (1024 * s.sd)) (B:=σ) (by omega) (by omega) (by omega) (by omega) (by omega) (by omega)
 have j3:4294967296 * (1024 * s.sd) * σ=4294967296 * (1024 * bsS s):=by rw [← b10];grind
 rw [j3] at j2
 omega
theorem rF_small {X Y:Int} (hY:0<Y) (h1:-9223372036854775807≤X) (h2:X≤9223372036854775807) (h3:Y≤9223372036854775807):rF X Y=true:=by
 have hg:1≤gc X Y:=gc_pos_right X Y hY
 unfold rF
 refine decide_eq_true ⟨?_,?_⟩
 ·have:mg X / gc X Y≤mg X:=Int.ediv_le_self _ (mg_nonneg X)
  have:mg X≤9223372036854775807:=by unfold mg;split <;> omega
  omega
 ·have:Y / gc X Y≤Y:=Int.ediv_le_self _ (by omega)
  omega
theorem mv_fit {s:Sr} (h:VS s) {n:Int} (n0:-4294967296≤n) (n1:n≤4294967296) :
  rE (mvX s n) (mvY s)=0∧rN (mvX s n) (mvY s)=(s.an * (bsS s / s.ad)+n * s.sn * (bsS s / s.sd)) / gc (s.an * (bsS s / s.ad)+n * s.sn * (bsS s / s.sd)) (bsS s) ∧
   rD (mvX s n) (mvY s)=bsS s / gc (s.an * (bsS s / s.ad)+n * s.sn * (bsS s / s.sd)) (bsS s):=by
 obtain⟨b1,b2,b3,b4,b5,b6,b7,b8,b9,b10⟩:=mv_base h n
 obtain⟨z1,z2,z3,z4⟩:=mv_num h n0 n1
 obtain⟨Z,hZ⟩:∃ Z,s.an * (bsS s / s.ad)+n * s.sn * (bsS s / s.sd)=Z:=⟨_,rfl⟩
 rw [hZ] at b4 ⊢
 have hu:=red_unique b3 (by omega:0<bsS s) b4
 have hf:rF Z (bsS s)=true:=rF_small (by omega) (by omega) (by omega) (by omega)
 refine⟨by rw [hu.2.2.2];exact rE_zero.2 hf,?_,?_⟩
 ·rw [hu.2.1];unfold rN;rw [if_pos hf]
 ·rw [hu.2.2.1];unfold rD;rw [if_pos hf]
theorem mvS_blk (n:Int):mvS blkS n=blkS:=by unfold mvS;rw [if_pos rfl]
theorem mvS_yes {s:Sr} (h:s≠blkS) (n:Int):mvS s n=s.to (rN (mvX s n) (mvY s)) (rD (mvX s n) (mvY s)):=by unfold mvS;rw [if_neg h]
theorem mvS_ne {s:Sr} (h:VS s) (n:Int):mvS s n≠blkS:=fun e=>by
 rw [mvS_yes h.ne] at e
 have:=congrArg Sr.k e
 have h2:=h.k
 simp [blkS,Sr.to] at this
 omega
theorem mvS_add {s:Sr} (h:vSr s) {n m:Int} (n0:-4294967296≤n) (n1:n≤4294967296):mvS (mvS s n) m=mvS s (n+m):=by
 rcases h with rfl | h
 ·rw [mvS_blk,mvS_blk,mvS_blk]
 have hne:=mvS_ne h n
 rw [mvS_yes h.ne] at hne
 rw [mvS_yes h.ne,mvS_yes hne,mvS_yes h.ne]
 obtain⟨a1,_,_⟩:=vB_inv h.a
 obtain⟨d1,_,_⟩:=vB_inv h.sp
 have hY:0<mvY s:=Int.mul_pos (by omega) (by omega)
 obtain⟨v1,v2,v3,v4,v5⟩:=red_spec hY (mv_fit h n0 n1).1
 clear v1 v4 v5 hne
 generalize rN (mvX s n) (mvY s)=p at *
 generalize rD (mvX s n) (mvY s)=q at *
 have hc:mvX (s.to p q) m * mvY s=mvX s (n+m) * mvY (s.to p q):=by
  unfold mvX mvY at v2 ⊢
  simp only [Sr.to]
  clear hY a1 d1
  grind
 have hY':0<mvY (s.to p q):=Int.mul_pos v3 (by show 0<s.sd;omega)
 have hu:=red_unique hY' hY hc
 rw [hu.2.1,hu.2.2.1]
 rfl
structure Cl where
 len:Int
 kind:Int
 a:Sr
 b:Sr
 off:Int
 tot:Int
 par:Int
 tx:ByteArray
 gain:Int
 ch:List Int
 deriving DecidableEq
def shr (k:Int):Bool:=decide (k=2∨k=3)
def nxt (c:Cl) (n:Int):Cl:=⟨n,c.kind,mvS c.a c.len,mvS c.b c.len,if shr c.kind then c.off+c.len else c.off,c.tot,c.par,c.tx,c.gain,c.ch⟩
def cont (c d:Cl):Bool:=decide (c.kind=0∧d.kind=0) || decide (nxt c d.len=d)
def longer (m:Cl) (n:Int):Cl:=⟨m.len+n,m.kind,m.a,m.b,m.off,m.tot,m.par,m.tx,m.gain,m.ch⟩
def pkGo:Cl→List Cl→List Cl
 | m,[]=>[m]
 | m,c :: l=>if cont m c then pkGo (longer m c.len) l else m :: pkGo c l
def pk:List Cl→List Cl
 | []=>[]
 | c :: l=>pkGo c l
def pkP:Cl→Cl→List Cl→List Cl
 | m,_,[]=>[m]
 | m,p,c :: l=>if cont p c then pkP (longer m c.len) c l else m :: pkP c c l
def Ends (m p:Cl):Prop:=nxt m 0=nxt p 0
theorem cont_ends {m p c:Cl} (h:Ends m p):cont m c=cont p c:=by
 unfold Ends at h
 have hk:m.kind=p.kind:=(congrArg Cl.kind h :)
 have he:nxt m c.len=nxt p c.len:=congrArg (fun x:Cl=>(⟨c.len,x.kind,x.a,x.b,x.off,x.tot,x.par,x.tx,x.gain,x.ch⟩:Cl)) h
 unfold cont
 rw [hk,he]
def tot:List Cl→Int
 | []=>0
 | c :: l=>c.len+tot l
theorem tot_append (a b:List Cl):tot (a ++ b)=tot a+tot b:=by
 induction a with
 | nil=>simp [tot]
 | cons c a ih=>simp only [List.cons_append,tot,ih];omega
structure VL (c:Cl):Prop where
 len:1≤c.len∧c.len≤2147483647
 a:vSr c.a
 b:vSr c.b
 gap:c.kind=0→c.a=blkS∧c.b=blkS∧c.off=0∧c.tot=0∧c.par=0∧c.tx=⟨#[]⟩∧c.gain=0∧c.ch=[]
theorem ends_join {m p c:Cl} (hm:vSr m.a∧vSr m.b) (hl:-4294967296≤m.len∧m.len≤4294967296) (hp:VL p) (hc:VL c) (h:Ends m p) (hk:cont p c=true):Ends (longer m c.len) c:=by
 unfold Ends at h ⊢
 have hkind:m.kind=p.kind:=(congrArg Cl.kind h :)
 have ha:mvS m.a m.len=mvS p.a p.len:=(congrArg Cl.a h :)
 have hb:mvS m.b m.len=mvS p.b p.len:=(congrArg Cl.b h :)
 have ho:(if shr m.kind then m.off+m.len else m.off)=(if shr p.kind then p.off+p.len else p.off):=(congrArg Cl.off h :)
 have ht:m.tot=p.tot:=(congrArg Cl.tot h :)
 have hpar:m.par=p.par:=(congrArg Cl.par h :)
 have htx:m.tx=p.tx:=(congrArg Cl.tx h :)
 have hg:m.gain=p.gain:=(congrArg Cl.gain h :)
 have hch:m.ch=p.ch:=(congrArg Cl.ch h :)
 unfold cont at hk
 rw [Bool.or_eq_true,decide_eq_true_eq,decide_eq_true_eq] at hk
 have key:nxt p c.len=c:=by
  rcases hk with ⟨k1,k2⟩ | hk
  ·obtain⟨x1,x2,x3,x4,x5,x6,x7,x8⟩:=hp.gap k1
   obtain⟨y1,y2,y3,y4,y5,y6,y7,y8⟩:=hc.gap k2
   cases p
   cases c
   simp only at *
   subst x1 x2 x3 x4 x5 x6 x7 x8 y1 y2 y3 y4 y5 y6 y7 y8 k1 k2
   simp [nxt,mvS_blk,shr]
  ·exact hk
 have ca:mvS p.a p.len=c.a:=(congrArg Cl.a key :)
 have cb:mvS p.b p.len=c.b:=(congrArg Cl.b key :)
 have co:(if shr p.kind then p.off+p.len else p.off)=c.off:=(congrArg Cl.off key :)
 have ck:p.kind=c.kind:=(congrArg Cl.kind key :)
 have ct:p.tot=c.tot:=(congrArg Cl.tot key :)
 have cp:p.par=c.par:=(congrArg Cl.par key :)
 have cx:p.tx=c.tx:=(congrArg Cl.tx key :)
 have cg:p.gain=c.gain:=(congrArg Cl.gain key :)
 have cc:p.ch=c.ch:=(congrArg Cl.ch key :)
 unfold nxt longer
 simp only [Cl.mk.injEq,true_and]
 refine⟨by omega,?_,?_,?_,by omega,by omega,by rw [htx,cx],by omega,by rw [hch,cc]⟩
 ·rw [← mvS_add hm.1 hl.1 hl.2,ha,ca]
 ·rw [← mvS_add hm.2 hl.1 hl.2,hb,cb]
 ·have k1:shr p.kind=shr c.kind:=by rw [ck]
  have k2:shr m.kind=shr c.kind:=by rw [hkind,ck]
  rw [k1] at co ho
  rw [k2] at ho ⊢
  cases hh:shr c.kind <;> rw [hh] at co ho <;> simp at co ho ⊢ <;> omega
theorem pkP_eq:∀ {l:List Cl} {m p:Cl},vSr m.a∧vSr m.b→0≤m.len→m.len+tot l≤4294967296→VL p→(∀ c∈l,VL c)→Ends m p→pkP m p l=pkGo m l
 | [],m,p,_,_,_,_,_,_=>rfl
 | c :: l,m,p,hm,h0,ht,hp,hl,he=>by
  have hc:=hl c List.mem_cons_self
  have hl':∀ d∈l,VL d:=fun d hd=>hl d (List.mem_cons_of_mem _ hd)
  have htot:0≤tot l:=by
   clear ht
   induction l with
   | nil=>exact Int.le_refl _
   | cons d l ih=>
    have:=(hl' d List.mem_cons_self).len
    have:=ih (fun x hx=>hl x (by rcases List.mem_cons.1 hx with rfl | hx;exact List.mem_cons_self;exact List.mem_cons_of_mem _ (List.mem_cons_of_mem _ hx))) (fun x hx=>hl' x (List.mem_cons_of_mem _ hx))
    simp only [tot]
    omega
  simp only [tot] at ht
  have hcl:=hc.len
  rw [pkP,pkGo,cont_ends he]
  split
  ·rename_i hk
   exact pkP_eq (l:=l) hm (by unfold longer;simp only;omega) (by unfold longer;simp only;omega) hc hl' (ends_join hm ⟨by omega,by omega⟩ hp hc he hk)
  ·rw [pkP_eq (l:=l) ⟨hc.a,hc.b⟩ (by omega) (by omega) hc hl' rfl]
def pkQ:List Cl→List Cl
 | []=>[]
 | c :: l=>pkP c c l
theorem pkQ_eq {l:List Cl} (h:∀ c∈l,VL c) (ht:tot l≤4294967296):pkQ l=pk l:=by
 cases l with
 | nil=>rfl
 | cons c l=>
  have hc:=h c List.mem_cons_self
  exact pkP_eq ⟨hc.a,hc.b⟩ (by have:=hc.len;omega) ht hc (fun d hd=>h d (List.mem_cons_of_mem _ hd)) rfl
theorem cont_longer (m c:Cl) (n:Int):cont m (longer c n)=cont m c:=by
 unfold cont
 congr 1
 rw [decide_eq_decide]
 unfold nxt longer
 cases c
 simp only [Cl.mk.injEq,true_and]
theorem longer_len (m:Cl) (n:Int):(longer m n).len=m.len+n:=rfl
theorem longer_twice (m:Cl) (a b:Int):longer (longer m a) b=longer m (a+b):=by unfold longer;simp only [Cl.mk.injEq,and_true];omega
def Packed:List Cl→Prop
 | []=>True
 | [_]=>True
 | c :: d :: l=>cont c d=false∧Packed (d :: l)
theorem Packed.tail {c:Cl} {l:List Cl} (h:Packed (c :: l)):Packed l:=by
 cases l with
 | nil=>trivial
 | cons d l=>exact h.2
theorem pkGo_ne (m:Cl) (l:List Cl):∃ n r,pkGo m l=longer m n :: r:=by
 induction l generalizing m with
 | nil=>exact⟨0,[],by unfold pkGo longer;simp⟩
 | cons c l ih=>
  unfold pkGo
  split
  ·obtain⟨n,r,h⟩:=ih (longer m c.len)
   exact⟨c.len+n,r,by rw [h,longer_twice]⟩
  ·exact⟨0,pkGo c l,by unfold longer;simp⟩
theorem pkGo_packed (m:Cl) (l:List Cl):Packed (pkGo m l):=by
 induction l generalizing m with
 | nil=>trivial
 | cons c l ih=>
  unfold pkGo
  split
  ·exact ih _
  ·rename_i h
   obtain⟨n,r,h2⟩:=pkGo_ne c l
   have:=ih c
   rw [h2] at this ⊢
   exact⟨by rw [cont_longer];simpa using h,this⟩
theorem pk_packed (l:List Cl):Packed (pk l):=by
 cases l with
 | nil=>trivial
 | cons c l=>exact pkGo_packed c l
theorem pkGo_of_packed:∀ (l:List Cl) (m:Cl),Packed (m :: l)→pkGo m l=m :: l
 | [],m,_=>rfl
 | c :: l,m,h=>by
  rw [pkGo,if_neg (by rw [h.1];simp),pkGo_of_packed l c h.2]
theorem pk_of_packed {l:List Cl} (h:Packed l):pk l=l:=by
 cases l with
 | nil=>rfl
 | cons c l=>exact pkGo_of_packed l c h
theorem pk_idem (l:List Cl):pk (pk l)=pk l:=pk_of_packed (pk_packed l)
theorem pkGo_two:∀ (x:List Cl) (m:Cl) (y:List Cl),∃ i t,pkGo m x=i ++ [t]∧pkGo m (x ++ y)=i ++ pkGo t y
 | [],m,y=>⟨[],m,rfl,rfl⟩
 | c :: x,m,y=>by
  rw [List.cons_append,pkGo,pkGo]
  split
  ·exact pkGo_two x _ y
  ·obtain⟨i,t,h1,h2⟩:=pkGo_two x c y
   exact⟨m :: i,t,by rw [h1];rfl,by rw [h2];rfl⟩
theorem pkGo_pre:∀ (i:List Cl) (m t:Cl) (y:List Cl),Packed (m :: (i ++ [t]))→pkGo m (i ++ t :: y)=m :: i ++ pkGo t y
 | [],m,t,y,h=>by
  rw [List.nil_append,pkGo,if_neg (by rw [h.1];simp)]
  rfl
 | c :: i,m,t,y,h=>by
  rw [List.cons_append,pkGo,if_neg (by rw [h.1];simp),pkGo_pre i c t y h.2]
  rfl
theorem pk_step (x y:List Cl):pk (pk x ++ y)=pk (x ++ y):=by
 cases x with
 | nil=>rfl
 | cons c x=>
  obtain⟨i,t,h1,h2⟩:=pkGo_two x c y
  have hp:=pkGo_packed c x
  show pk (pkGo c x ++ y)=pkGo c (x ++ y)
  rw [h1] at hp ⊢
  rw [h2]
  cases i with
  | nil=>rfl
  | cons d i=>
   show pkGo d ((i ++ [t]) ++ y)=_
   rw [List.append_assoc]
   exact pkGo_pre i d t y hp
theorem pkGo_pos (m:Cl) (l:List Cl):1≤(pkGo m l).length:=by
 obtain⟨n,r,h⟩:=pkGo_ne m l
 rw [h,List.length_cons]
 omega
theorem pk_mono (x y:List Cl):(pk x).length≤(pk (x ++ y)).length:=by
 cases x with
 | nil=>exact Nat.zero_le _
 | cons c x=>
  obtain⟨i,t,h1,h2⟩:=pkGo_two x c y
  show (pkGo c x).length≤(pkGo c (x ++ y)).length
  rw [h1,h2,List.length_append,List.length_append]
  have:=pkGo_pos t y
  simp only [List.length_singleton]
  omega
theorem pkGo_len (m:Cl) (l:List Cl):(pkGo m l).length≤l.length+1:=by
 induction l generalizing m with
 | nil=>exact Nat.le_refl _
 | cons c l ih=>
  unfold pkGo
  split
  ·have:=ih (longer m c.len);simp only [List.length_cons];omega
  ·have:=ih c;simp only [List.length_cons];omega
theorem pk_len (l:List Cl):(pk l).length≤l.length:=by
 cases l with
 | nil=>exact Nat.le_refl _
 | cons c l=>exact pkGo_len c l
theorem pkGo_tot (m:Cl) (l:List Cl):tot (pkGo m l)=m.len+tot l:=by
 induction l generalizing m with
 | nil=>simp [pkGo,tot]
 | cons c l ih=>
  unfold pkGo
  split
  ·rw [ih,longer_len];simp only [tot];omega
  ·simp only [tot,ih]
theorem pk_tot (l:List Cl):tot (pk l)=tot l:=by
 cases l with
 | nil=>rfl
 | cons c l=>exact pkGo_tot c l
theorem pkGo_join {m c d:Cl} {q:List Cl} (hm:VL m) (hc:VL c) (h:cont c d=true):pkGo m (c :: d :: q)=pkGo m (longer c d.len :: q):=by
 rw [pkGo,pkGo.eq_def m (longer c d.len :: q)]
 simp only [cont_longer]
 split
 ·rename_i hk
  rw [pkGo,cont_ends (ends_join ⟨hm.a,hm.b⟩ (by have:=hm.len;omega) hm hc rfl hk),if_pos h,longer_twice]
  rfl
 ·rw [pkGo,if_pos h]
theorem VL.longer {c:Cl} (h:VL c) {n:Int} (h0:0≤n) (h1:c.len+n≤2147483647):VL (longer c n):=⟨by rw [longer_len];have:=h.len;omega,h.a,h.b,h.gap⟩
theorem tot_nonneg {l:List Cl} (h:∀ c∈l,VL c):0≤tot l:=by
 induction l with
 | nil=>exact Int.le_refl _
 | cons d l ih=>
  have:=(h d List.mem_cons_self).len
  have:=ih (fun x hx=>h x (List.mem_cons_of_mem _ hx))
  simp only [tot]
  omega
theorem pkGo_join_in:∀ (p:List Cl) (m c d:Cl) (q:List Cl),VL m→VL c→VL d→(∀ x∈p,VL x)→m.len+tot p+c.len+d.len≤2147483647→cont c d=true→pkGo m (p ++ c :: d :: q)=pkGo m (p ++ longer c d.len :: q)
 | [],m,c,d,q,hm,hc,hd,hp,ht,h=>pkGo_join hm hc h
 | x :: p,m,c,d,q,hm,hc,hd,hp,ht,h=>by
  have hx:=hp x List.mem_cons_self
  have hp':∀ y∈p,VL y:=fun y hy=>hp y (List.mem_cons_of_mem _ hy)
  have hx1:=hx.len
  have hm1:=hm.len
  have hc1:=hc.len
  have hd1:=hd.len
  have h0:=tot_nonneg hp'
  simp only [tot] at ht
  rw [List.cons_append,List.cons_append,pkGo,pkGo]
  split
  ·exact pkGo_join_in p _ c d q (hm.longer (by omega) (by omega)) hc hd hp' (by rw [longer_len];omega) h
  ·rw [pkGo_join_in p x c d q hx hc hd hp' (by omega) h]
theorem pk_join {p:List Cl} {c d:Cl} {q:List Cl} (hc:VL c) (hd:VL d) (hp:∀ x∈p,VL x) (ht:tot p+c.len+d.len≤2147483647) (h:cont c d=true):pk (p ++ c :: d :: q)=pk (p ++ longer c d.len :: q):=by
 cases p with
 | nil=>
  show pkGo c (d :: q)=pkGo (longer c d.len) q
  rw [pkGo,if_pos h]
 | cons m p=>
  exact pkGo_join_in p m c d q (hp m List.mem_cons_self) hc hd (fun x hx=>hp x (List.mem_cons_of_mem _ hx)) (by simp only [tot] at ht;omega) h
theorem pkGo_all {P:Cl→Prop} (hP:∀ m c,P m→P c→cont m c=true→m.len+c.len≤2147483647→P (longer m c.len)) (hl:∀ c,P c→1≤c.len):∀ (l:List Cl) (m:Cl),P m→(∀ c∈l,P c)→m.len+tot l≤2147483647→∀ c∈pkGo m l,P c
 | [],m,hm,_,_,c,hc=>by rw [pkGo,List.mem_singleton] at hc;rw [hc];exact hm
 | d :: l,m,hm,h,ht,c,hc=>by
  have hd:=h d List.mem_cons_self
  have h':∀ c∈l,P c:=fun c hc=>h c (List.mem_cons_of_mem _ hc)
  have h0:0≤tot l:=by
   clear ht hc h
   induction l with
   | nil=>exact Int.le_refl _
   | cons d l ih=>
    have:=hl _ (h' d List.mem_cons_self)
    have:=ih (fun x hx=>h' x (List.mem_cons_of_mem _ hx))
    simp only [tot]
    omega
  simp only [tot] at ht
  have:=hl _ hd
  have:=hl _ hm
  rw [pkGo] at hc
  split at hc
  ·rename_i hk
   exact pkGo_all hP hl l _ (hP m d hm hd hk (by omega)) h' (by rw [longer_len];omega) c hc
  ·rcases List.mem_cons.1 hc with rfl | hc
   ·exact hm
   ·exact pkGo_all hP hl l d hd h' (by omega) c hc
theorem pk_all {P:Cl→Prop} (hP:∀ m c,P m→P c→cont m c=true→m.len+c.len≤2147483647→P (longer m c.len)) (hl:∀ c,P c→1≤c.len) {l:List Cl} (h:∀ c∈l,P c) (ht:tot l≤2147483647):∀ c∈pk l,P c:=by
 cases l with
 | nil=>intro c hc;cases hc
 | cons m l=>exact pkGo_all hP hl l m (h m List.mem_cons_self) (fun c hc=>h c (List.mem_cons_of_mem _ hc)) ht
abbrev noTx:ByteArray:=⟨#[]⟩
def kindOk (c:Cl):Prop:=
 (c.kind=0∧c.a=blkS∧c.b=blkS∧c.off=0∧c.tot=0∧c.par=0∧c.tx=noTx∧c.gain=0∧c.ch=[]) ∨
 (c.kind=1∧c.b=blkS∧c.off=0∧c.tot=0∧c.par=0∧c.tx=noTx) ∨
 (c.kind=2∧(0≤c.off∧c.len≤c.tot∧c.tot≤2147483647∧c.off≤c.tot - c.len)∧c.par=0∧c.tx=noTx) ∨
 (c.kind=3∧(0≤c.off∧c.len≤c.tot∧c.tot≤2147483647∧c.off≤c.tot - c.len)∧(0≤c.par∧c.par≤3)∧c.tx=noTx) ∨
 (c.kind=4∧c.off=0∧c.tot=0∧(0≤c.par∧c.par≤255)∧c.tx=noTx) ∨
 (c.kind=5∧c.b=blkS∧c.off=0∧c.tot=0∧c.par=0∧vLine c.tx=true)
structure VC (c:Cl):Prop where
 len:1≤c.len∧c.len≤2147483647
 gain:0≤c.gain∧c.gain≤65536
 chn:c.ch.length≤4∧∀ x∈c.ch,-1≤x∧x≤3
 a:vSr c.a
 b:vSr c.b
 kd:kindOk c
theorem VC.vl {c:Cl} (h:VC c):VL c:=by
 refine⟨h.len,h.a,h.b,fun h0=>?_⟩
 rcases h.kd with h | h | h | h | h | h
 ·exact⟨h.2.1,h.2.2.1,h.2.2.2.1,h.2.2.2.2.1,h.2.2.2.2.2.1,h.2.2.2.2.2.2.1,h.2.2.2.2.2.2.2.1,h.2.2.2.2.2.2.2.2⟩
 all_goals (have:=h.1;omega)
theorem VC.longer {m c:Cl} (hm:VC m) (hc:VC c) (hk:cont m c=true) (hl:m.len+c.len≤2147483647):VC (longer m c.len):=by
 have h1:=hm.len
 have h2:=hc.len
 refine⟨⟨by rw [longer_len];omega,by rw [longer_len];omega⟩,hm.gain,hm.chn,hm.a,hm.b,?_⟩
 have key:shr m.kind=true→m.off+m.len=c.off∧c.tot=m.tot∧c.kind=m.kind:=fun hs=>by
  unfold cont at hk
  rw [Bool.or_eq_true,decide_eq_true_eq,decide_eq_true_eq] at hk
  rcases hk with ⟨k1,k2⟩ | hk
  ·rw [k1] at hs;simp [shr] at hs
  ·have e1:(if shr m.kind then m.off+m.len else m.off)=c.off:=(congrArg Cl.off hk :)
   rw [if_pos hs] at e1
   exact⟨e1,(congrArg Cl.tot hk :).symm,(congrArg Cl.kind hk :).symm⟩
 have hs:∀ t:Int,(t=2∨t=3)→m.kind=t→m.off+m.len+c.len≤m.tot:=fun t ht he=>by
  obtain⟨k1,k2,k3⟩:=key (by rw [he];unfold shr;exact decide_eq_true ht)
  rcases hc.kd with h | h | h | h | h | h
  ·have:=h.1;omega
  ·have:=h.1;omega
  ·have:=h.2.1;omega
  ·have:=h.2.1;omega
  ·have:=h.1;omega
  ·have:=h.1;omega
 rcases hm.kd with h | h | h | h | h | h
 ·exact .inl h
 ·exact .inr (.inl h)
 ·have:=hs 2 (.inl rfl) h.1
  have h3:=h.2.1
  refine .inr (.inr (.inl ⟨h.1,⟨h3.1,?_,h3.2.2.1,?_⟩,h.2.2⟩)) <;> rw [longer_len] <;> unfold Go.Proofs.YtnginfangeikpaaGreatDoor.longer <;> simp only <;> omega
 ·have:=hs 3 (.inr rfl) h.1
  have h3:=h.2.1
  refine .inr (.inr (.inr (.inl ⟨h.1,⟨h3.1,?_,h3.2.2.1,?_⟩,h.2.2⟩))) <;> rw [longer_len] <;> unfold Go.Proofs.YtnginfangeikpaaGreatDoor.longer <;> simp only <;> omega
 ·exact .inr (.inr (.inr (.inr (.inl h))))
 ·exact .inr (.inr (.inr (.inr (.inr h))))
theorem pk_valid {l:List Cl} (h:∀ c∈l,VC c) (ht:tot l≤2147483647):∀ c∈pk l,VC c:=
 pk_all (P:=VC) (fun m c hm hc hk hl=>hm.longer hc hk hl) (fun c hc=>hc.len.1) h ht
structure Ev where
 k:Int
 p:Int
 fr:Int
 reel:ByteArray
 i:Int
 o:Int
 f:Int
 t:Int
 deriving DecidableEq
def vKd (e:Ev):Bool:=decide (e.k=0∧e.fr=0∧e.p=0) || decide (e.k=1∧1≤e.fr∧e.fr≤999∧e.p=0) || decide (e.k=2∧1≤e.fr∧e.fr≤999∧0≤e.p∧e.p≤3)
def vRl (e:Ev) (day:Int):Bool:=if e.reel.size=0 then decide (e.i=0∧e.o=0) else nmB e.reel && decide (0≤e.i∧e.i<day∧e.o=e.i+(e.t - e.f)∧e.o<day)
def vEv (e:Ev) (least day:Int):Bool:=vKd e && decide (least≤e.f∧e.f<e.t∧e.t<day∧e.fr≤e.t - e.f) && vRl e day
def vEvs (day:Int):Int→List Ev→Bool
 | _,[]=>true
 | least,e :: l=>vEv e least day && vEvs day e.t l
def plS (r:ByteArray) (n:Int):Sr:=if r.size=0 then blkS else ⟨1,r,n,1,1,1,false⟩
structure VE (e:Ev) (least day:Int):Prop where
 kd:(e.k=0∧e.fr=0∧e.p=0)∨(e.k=1∧1≤e.fr∧e.fr≤999∧e.p=0)∨(e.k=2∧1≤e.fr∧e.fr≤999∧0≤e.p∧e.p≤3)
 l:least≤e.f
 ft:e.f<e.t
 d:e.t<day
 fr:e.fr≤e.t - e.f
 rl:(e.reel.size=0∧e.i=0∧e.o=0)∨(e.reel.size≠0∧nmB e.reel=true∧0≤e.i∧e.i<day∧e.o=e.i+(e.t - e.f)∧e.o<day)
theorem vEv_iff {e:Ev} {least day:Int}:vEv e least day=true↔VE e least day:=by
 unfold vEv vKd vRl
 simp only [Bool.and_eq_true,Bool.or_eq_true,decide_eq_true_eq]
 constructor
 ·rintro ⟨⟨h1,h2⟩,h3⟩
  refine⟨by rcases h1 with (h1 | h1) | h1;exact .inl h1;exact .inr (.inl h1);exact .inr (.inr h1),h2.1,h2.2.1,h2.2.2.1,h2.2.2.2,?_⟩
  split at h3
  ·rename_i h
   exact .inl ⟨h,of_decide_eq_true h3⟩
  ·rename_i h
   rw [Bool.and_eq_true,decide_eq_true_eq] at h3
   exact .inr ⟨h,h3⟩
 ·intro h
  refine⟨⟨by rcases h.kd with h1 | h1 | h1;exact .inl (.inl h1);exact .inl (.inr h1);exact .inr h1,h.l,h.ft,h.d,h.fr⟩,?_⟩
  rcases h.rl with h1 | h1
  ·rw [if_pos h1.1];exact decide_eq_true h1.2
  ·rw [if_neg h1.1,Bool.and_eq_true,decide_eq_true_eq];exact h1.2
theorem vEvs_cons {day least:Int} {e:Ev} {l:List Ev}:vEvs day least (e :: l)=true↔VE e least day∧vEvs day e.t l=true:=by
 rw [vEvs,Bool.and_eq_true,vEv_iff]
theorem plS_mv (r:ByteArray) {a n:Int} (h1:-9223372036854775807≤a+n) (h2:a+n≤9223372036854775807):mvS (plS r a) n=plS r (a+n):=by
 unfold plS
 split
 ·exact mvS_blk n
 ·have hne:(⟨1,r,a,1,1,1,false⟩:Sr)≠blkS:=fun e=>by have:=congrArg Sr.k e;simp [blkS] at this
  rw [mvS_yes hne]
  have hx:mvX ⟨1,r,a,1,1,1,false⟩ n=a+n:=by unfold mvX;simp only;omega
  have hy:mvY ⟨1,r,a,1,1,1,false⟩=1:=by unfold mvY;simp only;omega
  have hs:=red_self (n:=a+n) (d:=1) (vB_true (by omega) (by omega) (by unfold gc;simp)) h2 (by omega)
  rw [hx,hy,hs.1,hs.2.1]
  rfl
theorem plS_valid {r:ByteArray} {n:Int} (hr:r.size=0∨nmB r=true) (h0:0≤n) (h1:n≤1099511627776):vSr (plS r n):=by
 unfold plS
 split
 ·exact .inl rfl
 ·rename_i h
  refine .inr ⟨.inl rfl,hr.elim (fun e=>absurd e h) id,vB_true (by simp only;omega) (by simp only;omega) (by unfold gc;simp),vB_true (by simp only;omega) (by simp only;omega) (by unfold gc;simp),by simp only;omega,by simp only;omega,by simp only;omega,by simp only;omega,?_⟩
  unfold bsS gc
  simp
def cutC (n:Int) (s:Sr):Cl:=⟨n,1,s,blkS,0,0,0,noTx,0,[]⟩
def gapC (n:Int):Cl:=⟨n,0,blkS,blkS,0,0,0,noTx,0,[]⟩
def mixC (e:Ev) (bf:Sr):Cl:=⟨e.fr,e.k+1,bf,plS e.reel e.i,0,e.fr,e.p,noTx,0,[]⟩
def evM (bf:Sr) (e:Ev):List Cl:=if e.fr≤0 then [] else [mixC e bf]
def evR (e:Ev):List Cl:=if e.t - e.f - e.fr≤0 then [] else [cutC (e.t - e.f - e.fr) (plS e.reel (e.i+e.fr))]
def evC (bf:Sr) (e:Ev):List Cl:=evM bf e ++ evR e
def trk:Int→Sr→List Ev→List Cl
 | _,_,[]=>[]
 | n,bf,e :: l=>(if n<e.f then gapC (e.f - n) :: evC blkS e else evC bf e) ++ trk e.t (plS e.reel e.o) l
theorem VE.reel {e:Ev} {n day:Int} (h:VE e n day):e.reel.size=0∨nmB e.reel=true:=by
 rcases h.rl with h | h
 ·exact .inl h.1
 ·exact .inr h.2.1
theorem VE.bounds {e:Ev} {n day:Int} (h:VE e n day) (h0:0≤n):0≤e.i∧0≤e.o∧e.i≤day∧e.o≤day∧0≤e.fr:=by
 have h1:=h.l
 have h2:=h.ft
 have h3:=h.d
 have h4:0≤e.fr:=by rcases h.kd with h | h | h <;> omega
 rcases h.rl with h | h
 ·omega
 ·omega
theorem evC_valid {e:Ev} {n day:Int} {bf:Sr} (h:VE e n day) (h0:0≤n) (hd:day≤5184000) (hb:vSr bf):∀ c∈evC bf e,VC c:=by
 obtain⟨b1,b2,b3,b4,b5⟩:=h.bounds h0
 have h1:=h.l
 have h2:=h.ft
 have h3:=h.d
 have h4:=h.fr
 intro c hc
 rcases List.mem_append.1 hc with hc | hc
 ·unfold evM at hc
  split at hc
  ·cases hc
  ·rename_i hf
   rw [List.mem_singleton.1 hc]
   refine⟨by unfold mixC;simp only;omega,by unfold mixC;simp only;omega,by unfold mixC;simp,hb,plS_valid h.reel b1 (by omega),?_⟩
   rcases h.kd with h | h | h
   ·omega
   ·exact .inr (.inr (.inl ⟨by unfold mixC;simp only;omega,by unfold mixC;simp only;omega,by unfold mixC;simp only;omega,rfl⟩))
   ·exact .inr (.inr (.inr (.inl ⟨by unfold mixC;simp only;omega,by unfold mixC;simp only;omega,by unfold mixC;simp only;omega,rfl⟩)))
 ·unfold evR at hc
  split at hc
  ·cases hc
  ·rw [List.mem_singleton.1 hc]
   exact⟨by unfold cutC;simp only;omega,by unfold cutC;simp only;omega,by unfold cutC;simp,plS_valid h.reel (by omega) (by omega),.inl rfl,.inr (.inl ⟨rfl,rfl,rfl,rfl,rfl,rfl⟩)⟩
theorem evC_tot {e:Ev} {n day:Int} {bf:Sr} (h:VE e n day):tot (evC bf e)=e.t - e.f:=by
 have h2:=h.ft
 have h4:=h.fr
 have h5:0≤e.fr:=by rcases h.kd with h | h | h <;> omega
 unfold evC evM evR
 rw [tot_append]
 split <;> split <;> simp only [tot,mixC,cutC] <;> omega
theorem gapC_valid {n:Int} (h0:1≤n) (h1:n≤2147483647):VC (gapC n):=
 ⟨⟨h0,h1⟩,by unfold gapC;simp only;omega,by unfold gapC;simp,.inl rfl,.inl rfl,.inl ⟨rfl,rfl,rfl,rfl,rfl,rfl,rfl,rfl,rfl⟩⟩
def adds (n:Int) (bf:Sr) (e:Ev):List Cl:=if n<e.f then gapC (e.f - n) :: evC blkS e else evC bf e
theorem trk_cons (n:Int) (bf:Sr) (e:Ev) (l:List Ev):trk n bf (e :: l)=adds n bf e ++ trk e.t (plS e.reel e.o) l:=rfl
theorem adds_valid {e:Ev} {n day:Int} {bf:Sr} (h:VE e n day) (h0:0≤n) (hd:day≤5184000) (hb:vSr bf):∀ c∈adds n bf e,VC c:=by
 unfold adds
 split
 ·intro c hc
  rcases List.mem_cons.1 hc with rfl | hc
  ·exact gapC_valid (by omega) (by have:=h.ft;have:=h.d;omega)
  ·exact evC_valid h h0 hd (.inl rfl) c hc
 ·exact evC_valid h h0 hd hb
theorem adds_tot {e:Ev} {n day:Int} {bf:Sr} (h:VE e n day):tot (adds n bf e)=e.t - n:=by
 have:=h.l
 unfold adds
 split
 ·simp only [tot,evC_tot h,gapC];omega
 ·rw [evC_tot h];omega
theorem adds_len (e:Ev) (n:Int) (bf:Sr):(adds n bf e).length≤3:=by
 unfold adds evC evM evR
 split <;> split <;> split <;> simp
theorem VE.after {e:Ev} {n day:Int} (h:VE e n day) (h0:0≤n) (hd:day≤5184000):vSr (plS e.reel e.o):=by
 obtain⟨b1,b2,b3,b4,b5⟩:=h.bounds h0
 exact plS_valid h.reel b2 (by omega)
theorem trk_valid {day:Int} (hd:day≤5184000):∀ {l:List Ev} {n:Int} {bf:Sr},vEvs day n l=true→0≤n→vSr bf→∀ c∈trk n bf l,VC c
 | [],_,_,_,_,_,c,hc=>by cases hc
 | e :: l,n,bf,h,h0,hb,c,hc=>by
  obtain⟨he,hl⟩:=vEvs_cons.1 h
  rw [trk_cons] at hc
  rcases List.mem_append.1 hc with hc | hc
  ·exact adds_valid he h0 hd hb c hc
  ·exact trk_valid hd hl (by have:=he.l;have:=he.ft;omega) (he.after h0 hd) c hc
def endE:Int→List Ev→Int
 | n,[]=>n
 | _,e :: l=>endE e.t l
theorem endE_ge {day:Int}:∀ {l:List Ev} {n:Int},vEvs day n l=true→n≤endE n l∧(n<day→endE n l<day)
 | [],n,_=>⟨Int.le_refl _,id⟩
 | e :: l,n,h=>by
  obtain⟨he,hl⟩:=vEvs_cons.1 h
  have:=endE_ge hl
  have:=he.l
  have:=he.ft
  have:=he.d
  simp only [endE]
  omega
theorem trk_tot {day:Int}:∀ {l:List Ev} {n:Int} {bf:Sr},vEvs day n l=true→tot (trk n bf l)=endE n l - n
 | [],_,_,_=>by simp [trk,tot,endE]
 | e :: l,n,bf,h=>by
  obtain⟨he,hl⟩:=vEvs_cons.1 h
  rw [trk_cons,tot_append,adds_tot he,trk_tot hl]
  simp only [endE]
  omega
def bfE:Sr→List Ev→Sr
 | bf,[]=>bf
 | _,e :: l=>bfE (plS e.reel e.o) l
theorem trk_append:∀ (a b:List Ev) (n:Int) (bf:Sr),trk n bf (a ++ b)=trk n bf a ++ trk (endE n a) (bfE bf a) b
 | [],b,n,bf=>rfl
 | e :: a,b,n,bf=>by
  rw [List.cons_append,trk_cons,trk_cons,trk_append a b,List.append_assoc]
  rfl
theorem endE_snoc:∀ (a:List Ev) (e:Ev) (n:Int),endE n (a ++ [e])=e.t
 | [],e,n=>rfl
 | x :: a,e,n=>endE_snoc a e x.t
theorem bfE_snoc:∀ (a:List Ev) (e:Ev) (bf:Sr),bfE bf (a ++ [e])=plS e.reel e.o
 | [],e,bf=>rfl
 | x :: a,e,bf=>bfE_snoc a e _
end Go.Proofs.YtnginfangeikpaaGreatDoor
