/-
  Plain arithmetic: sums and quotients of wide integers. No program in sight.
  Conditions: none.
-/
import Derived.Test.YtgbiodnfpbhjiaaGreatDoorWalkA
import Derived.Test.YtgbiodnfpbhjiaaGreatDoorWalkD
import Derived.Test.YtgbiodnfpbhjiaaGreatDoorKit
import Derived.Test.YtgbiodnfpbhjiaaGreatDoorWalkBd
namespace Go.Proofs.YtgbiodnfpbhjiaaGreatDoor
open Go.RowKit
set_option linter.unusedVariables false
set_option linter.unusedSimpArgs false
set_option maxHeartbeats 400000 in
theorem modulo_any (v d:Int) (w:World) (hf:Fit v) (hd:1≤d) (hd2:d<18446744073709551616) :
  Calls Tryz.prog 231 #[.agg #[.bool (wN v),.int .u64 (wH v),.int .u64 (wL v)],.int .u64 d] w fun e w'=>e=.returned (.int .u64 (mg v % d))∧Gr w w':=by
 have b1:=wH_nonneg v
 have b2:=wL_nonneg v
 have b3:=wL_lt v
 have b4:=wH_lt hf
 go_enter Tryz.func231,Tryz.ntmps231
 go_wp2_with (go_at_call 255;refine (rem64_any _ _ d _ b1 b4 b2 b3 (by omega) hd2).mono ?_;rintro e w' ⟨rfl,n,rfl⟩)
 go_ret
 exact⟨ret_int (by rw [wHL]),(by repeat (first | refine Gr.setCell ?_ (by first | omega | (simp;done) | (simp;omega)) _ | refine Gr.alloc ?_ _ | refine Gr.drew ?_ | refine Gr.drewN ?_ _ | with_reducible assumption | with_reducible exact Gr.refl _ | refine Gr.trans ?_ (by with_reducible assumption)))⟩
def vB (n d:Int):Bool:=decide (1≤d∧-9223372036854775808<n∧gc n d=1)
theorem vB_true {n d:Int} (h1:1≤d) (h2:-9223372036854775808<n) (h3:gc n d=1):vB n d=true:=decide_eq_true ⟨h1,h2,h3⟩
theorem vB_den {n d:Int} (h:¬ 1≤d):vB n d=false:=decide_eq_false fun x=>h x.1
theorem vB_num {n d:Int} (h:¬ -9223372036854775808<n):vB n d=false:=decide_eq_false fun x=>h x.2.1
theorem vB_gc {n d:Int} (h:¬ gc n d=1):vB n d=false:=decide_eq_false fun x=>h x.2.2
theorem vB_inv {n d:Int} (h:vB n d=true):1≤d∧-9223372036854775808<n∧gc n d=1:=of_decide_eq_true h
def rF (n d:Int):Bool:=decide (mg n / gc n d≤9223372036854775807∧d / gc n d≤9223372036854775807)
def rN (n d:Int):Int:=if rF n d then n / gc n d else 0
def rD (n d:Int):Int:=if rF n d then d / gc n d else 0
def I64 (x:Int):Prop:=-9223372036854775808≤x∧x≤9223372036854775807
set_option maxHeartbeats 1000000 in
theorem valid_any (n d:Int) (w:World) (hn:I64 n) (hd:I64 d) :
  Calls Tryz.prog 203 #[.agg #[.int .i64 n,.int .i64 d]] w fun e w'=>e=.returned (.bool (vB n d))∧Gr w w':=by
 obtain⟨n1,n2⟩:=hn
 obtain⟨d1,d2⟩:=hd
 by_cases c1:1≤d
 ·by_cases c2:-9223372036854775808<n
  ·have c2':-9223372036854775807≤n:=by omega
   have b1:=mg_nonneg n
   have b2:=mg_lt n n1 n2
   by_cases c3:gc n d=1
   all_goals
    first | rw [vB_true c1 c2 c3] | rw [vB_gc c3]
    first
     | have H:(gc (mg n) d == 1)=true:=by rw [gc_mg];simpa using c3
     | have H:(gc (mg n) d == 1)=false:=by rw [gc_mg];simpa using c3
    clear c3
    go_enter Tryz.func203,Tryz.ntmps203
    go_wp2
    go_quiet ((first
     | (go_at_call 197;exact quiet_left (magnitude_any n _ (by omega) (by omega)))
     | (go_at_call 198;exact Calls.quiet_of (gcd_any _ _ _ (by omega) (by omega) (by omega) (by omega)))))
    go_wp2
    go_ret
    exact⟨ret_bool rfl,(by repeat (first | refine Gr.setCell ?_ (by first | omega | (simp;done) | (simp;omega)) _ | refine Gr.alloc ?_ _ | refine Gr.drew ?_ | refine Gr.drewN ?_ _ | with_reducible assumption | with_reducible exact Gr.refl _ | refine Gr.trans ?_ (by with_reducible assumption)))⟩
  ·rw [vB_num c2]
   have hd:decide (-9223372036854775808<n)=false:=decide_eq_false c2
   have hd':decide (-9223372036854775807≤n)=false:=decide_eq_false (by omega)
   clear c2
   go_enter Tryz.func203,Tryz.ntmps203
   go_wp2
   go_quiet (fail)
   go_wp2
   go_ret
   exact⟨ret_bool rfl,(by repeat (first | refine Gr.setCell ?_ (by first | omega | (simp;done) | (simp;omega)) _ | refine Gr.alloc ?_ _ | refine Gr.drew ?_ | refine Gr.drewN ?_ _ | with_reducible assumption | with_reducible exact Gr.refl _ | refine Gr.trans ?_ (by with_reducible assumption)))⟩
 ·rw [vB_den c1]
  have hd:decide (1≤d)=false:=decide_eq_false c1
  clear c1
  go_enter Tryz.func203,Tryz.ntmps203
  go_wp2
  go_quiet (fail)
  go_wp2
  go_ret
  exact⟨ret_bool rfl,(by repeat (first | refine Gr.setCell ?_ (by first | omega | (simp;done) | (simp;omega)) _ | refine Gr.alloc ?_ _ | refine Gr.drew ?_ | refine Gr.drewN ?_ _ | with_reducible assumption | with_reducible exact Gr.refl _ | refine Gr.trans ?_ (by with_reducible assumption)))⟩
end Go.Proofs.YtgbiodnfpbhjiaaGreatDoor

namespace Go.Proofs.YtgbiodnfpbhjiaaGreatDoor
open Go.RowKit
set_option linter.unusedVariables false
section
variable {an ad bn bd cn cd:Int}
end
end Go.Proofs.YtgbiodnfpbhjiaaGreatDoor

namespace Go.Proofs.YtgbiodnfpbhjiaaGreatDoor
set_option linter.unusedVariables false
set_option linter.unusedSimpArgs false
def nmc (b:UInt8):Bool:=decide (97≤b.toNat∧b.toNat≤122) || decide (48≤b.toNat∧b.toNat≤57) || decide (b.toNat=45) || decide (b.toNat=95) || decide (b.toNat=46)
def nmB (s:ByteArray):Bool:=decide (1≤s.size) && decide (s.size≤32) && s.data.toList.all nmc
structure Sr where
 k:Int
 nm:ByteArray
 an:Int
 ad:Int
 sn:Int
 sd:Int
 sm:Bool
 deriving DecidableEq
def blkS:Sr:=⟨0,⟨#[]⟩,0,0,0,0,false⟩
def mvX (s:Sr) (n:Int):Int:=s.an * s.sd+n * s.sn * s.ad
def mvY (s:Sr):Int:=s.ad * s.sd
def Sr.to (s:Sr) (n d:Int):Sr:=⟨s.k,s.nm,n,d,s.sn,s.sd,s.sm⟩
def mvS (s:Sr) (n:Int):Sr:=if s=blkS then s else s.to (rN (mvX s n) (mvY s)) (rD (mvX s n) (mvY s))
def bsS (s:Sr):Int:=s.ad / gc s.ad s.sd * s.sd
structure VS (s:Sr):Prop where
 k:s.k=1∨s.k=2
 nm:nmB s.nm=true
 a:vB s.an s.ad=true
 sp:vB s.sn s.sd=true
 a1:s.ad≤65536
 a2:-1099511627776 * s.ad≤s.an∧s.an≤1099511627776 * s.ad
 s1:s.sd≤65536
 s2:-1024 * s.sd≤s.sn∧s.sn≤1024 * s.sd
 b:bsS s≤65536
def vSr (s:Sr):Prop:=s=blkS∨VS s
theorem VS.ne {s:Sr} (h:VS s):s≠blkS:=fun e=>by
 have:=h.k
 rw [e] at this
 simp [blkS] at this
structure Cl where
 len:Int
 kind:Int
 a:Sr
 b:Sr
 off:Int
 tot:Int
 par:Int
 tx:ByteArray
 gain:Int
 ch:List Int
 deriving DecidableEq
def shr (k:Int):Bool:=decide (k=2∨k=3)
def nxt (c:Cl) (n:Int):Cl:=⟨n,c.kind,mvS c.a c.len,mvS c.b c.len,if shr c.kind then c.off+c.len else c.off,c.tot,c.par,c.tx,c.gain,c.ch⟩
def cont (c d:Cl):Bool:=decide (c.kind=0∧d.kind=0) || decide (nxt c d.len=d)
def longer (m:Cl) (n:Int):Cl:=⟨m.len+n,m.kind,m.a,m.b,m.off,m.tot,m.par,m.tx,m.gain,m.ch⟩
def pkGo:Cl→List Cl→List Cl
 | m,[]=>[m]
 | m,c :: l=>if cont m c then pkGo (longer m c.len) l else m :: pkGo c l
def pk:List Cl→List Cl
 | []=>[]
 | c :: l=>pkGo c l
def pkP:Cl→Cl→List Cl→List Cl
 | m,_,[]=>[m]
 | m,p,c :: l=>if cont p c then pkP (longer m c.len) c l else m :: pkP c c l
def tot:List Cl→Int
 | []=>0
 | c :: l=>c.len+tot l
theorem tot_append (a b:List Cl):tot (a ++ b)=tot a+tot b:=by
 induction a with
 | nil=>simp [tot]
 | cons c a ih=>simp only [List.cons_append,tot,ih];omega
structure VL (c:Cl):Prop where
 len:1≤c.len∧c.len≤2147483647
 a:vSr c.a
 b:vSr c.b
 gap:c.kind=0→c.a=blkS∧c.b=blkS∧c.off=0∧c.tot=0∧c.par=0∧c.tx=⟨#[]⟩∧c.gain=0∧c.ch=[]
def pkQ:List Cl→List Cl
 | []=>[]
 | c :: l=>pkP c c l
theorem longer_len (m:Cl) (n:Int):(longer m n).len=m.len+n:=rfl
def Packed:List Cl→Prop
 | []=>True
 | [_]=>True
 | c :: d :: l=>cont c d=false∧Packed (d :: l)
theorem Packed.tail {c:Cl} {l:List Cl} (h:Packed (c :: l)):Packed l:=by
 cases l with
 | nil=>trivial
 | cons d l=>exact h.2
theorem VL.longer {c:Cl} (h:VL c) {n:Int} (h0:0≤n) (h1:c.len+n≤2147483647):VL (longer c n):=⟨by rw [longer_len];have:=h.len;omega,h.a,h.b,h.gap⟩
theorem tot_nonneg {l:List Cl} (h:∀ c∈l,VL c):0≤tot l:=by
 induction l with
 | nil=>exact Int.le_refl _
 | cons d l ih=>
  have:=(h d List.mem_cons_self).len
  have:=ih (fun x hx=>h x (List.mem_cons_of_mem _ hx))
  simp only [tot]
  omega
abbrev noTx:ByteArray:=⟨#[]⟩
def kindOk (c:Cl):Prop:=
 (c.kind=0∧c.a=blkS∧c.b=blkS∧c.off=0∧c.tot=0∧c.par=0∧c.tx=noTx∧c.gain=0∧c.ch=[]) ∨
 (c.kind=1∧c.b=blkS∧c.off=0∧c.tot=0∧c.par=0∧c.tx=noTx) ∨
 (c.kind=2∧(0≤c.off∧c.len≤c.tot∧c.tot≤2147483647∧c.off≤c.tot - c.len)∧c.par=0∧c.tx=noTx) ∨
 (c.kind=3∧(0≤c.off∧c.len≤c.tot∧c.tot≤2147483647∧c.off≤c.tot - c.len)∧(0≤c.par∧c.par≤3)∧c.tx=noTx) ∨
 (c.kind=4∧c.off=0∧c.tot=0∧(0≤c.par∧c.par≤255)∧c.tx=noTx) ∨
 (c.kind=5∧c.b=blkS∧c.off=0∧c.tot=0∧c.par=0∧vLine c.tx=true)
structure VC (c:Cl):Prop where
 len:1≤c.len∧c.len≤2147483647
 gain:0≤c.gain∧c.gain≤65536
 chn:c.ch.length≤4∧∀ x∈c.ch,-1≤x∧x≤3
 a:vSr c.a
 b:vSr c.b
 kd:kindOk c
theorem VC.vl {c:Cl} (h:VC c):VL c:=by
 refine⟨h.len,h.a,h.b,fun h0=>?_⟩
 rcases h.kd with h | h | h | h | h | h
 ·exact⟨h.2.1,h.2.2.1,h.2.2.2.1,h.2.2.2.2.1,h.2.2.2.2.2.1,h.2.2.2.2.2.2.1,h.2.2.2.2.2.2.2.1,h.2.2.2.2.2.2.2.2⟩
 all_goals (have:=h.1;omega)
theorem VC.longer {m c:Cl} (hm:VC m) (hc:VC c) (hk:cont m c=true) (hl:m.len+c.len≤2147483647):VC (longer m c.len):=by
 have h1:=hm.len
 have h2:=hc.len
 refine⟨⟨by rw [longer_len];omega,by rw [longer_len];omega⟩,hm.gain,hm.chn,hm.a,hm.b,?_⟩
 have key:shr m.kind=true→m.off+m.len=c.off∧c.tot=m.tot∧c.kind=m.kind:=fun hs=>by
  unfold cont at hk
  rw [Bool.or_eq_true,decide_eq_true_eq,decide_eq_true_eq] at hk
  rcases hk with ⟨k1,k2⟩ | hk
  ·rw [k1] at hs;simp [shr] at hs
  ·have e1:(if shr m.kind then m.off+m.len else m.off)=c.off:=(congrArg Cl.off hk :)
   rw [if_pos hs] at e1
   exact⟨e1,(congrArg Cl.tot hk :).symm,(congrArg Cl.kind hk :).symm⟩
 have hs:∀ t:Int,(t=2∨t=3)→m.kind=t→m.off+m.len+c.len≤m.tot:=fun t ht he=>by
  obtain⟨k1,k2,k3⟩:=key (by rw [he];unfold shr;exact decide_eq_true ht)
  rcases hc.kd with h | h | h | h | h | h
  ·have:=h.1;omega
  ·have:=h.1;omega
  ·have:=h.2.1;omega
  ·have:=h.2.1;omega
  ·have:=h.1;omega
  ·have:=h.1;omega
 rcases hm.kd with h | h | h | h | h | h
 ·exact .inl h
 ·exact .inr (.inl h)
 ·have:=hs 2 (.inl rfl) h.1
  have h3:=h.2.1
  refine .inr (.inr (.inl ⟨h.1,⟨h3.1,?_,h3.2.2.1,?_⟩,h.2.2⟩)) <;> rw [longer_len] <;> unfold Go.Proofs.YtgbiodnfpbhjiaaGreatDoor.longer <;> simp only <;> omega
 ·have:=hs 3 (.inr rfl) h.1
  have h3:=h.2.1
  refine .inr (.inr (.inr (.inl ⟨h.1,⟨h3.1,?_,h3.2.2.1,?_⟩,h.2.2⟩))) <;> rw [longer_len] <;> unfold Go.Proofs.YtgbiodnfpbhjiaaGreatDoor.longer <;> simp only <;> omega
 ·exact .inr (.inr (.inr (.inr (.inl h))))
 ·exact .inr (.inr (.inr (.inr (.inr h))))
structure Ev where
 k:Int
 p:Int
 fr:Int
 reel:ByteArray
 i:Int
 o:Int
 f:Int
 t:Int
 deriving DecidableEq
def vKd (e:Ev):Bool:=decide (e.k=0∧e.fr=0∧e.p=0) || decide (e.k=1∧1≤e.fr∧e.fr≤999∧e.p=0) || decide (e.k=2∧1≤e.fr∧e.fr≤999∧0≤e.p∧e.p≤3)
def vRl (e:Ev) (day:Int):Bool:=if e.reel.size=0 then decide (e.i=0∧e.o=0) else nmB e.reel && decide (0≤e.i∧e.i<day∧e.o=e.i+(e.t - e.f)∧e.o<day)
def vEv (e:Ev) (least day:Int):Bool:=vKd e && decide (least≤e.f∧e.f<e.t∧e.t<day∧e.fr≤e.t - e.f) && vRl e day
def vEvs (day:Int):Int→List Ev→Bool
 | _,[]=>true
 | least,e :: l=>vEv e least day && vEvs day e.t l
def plS (r:ByteArray) (n:Int):Sr:=if r.size=0 then blkS else ⟨1,r,n,1,1,1,false⟩
structure VE (e:Ev) (least day:Int):Prop where
 kd:(e.k=0∧e.fr=0∧e.p=0)∨(e.k=1∧1≤e.fr∧e.fr≤999∧e.p=0)∨(e.k=2∧1≤e.fr∧e.fr≤999∧0≤e.p∧e.p≤3)
 l:least≤e.f
 ft:e.f<e.t
 d:e.t<day
 fr:e.fr≤e.t - e.f
 rl:(e.reel.size=0∧e.i=0∧e.o=0)∨(e.reel.size≠0∧nmB e.reel=true∧0≤e.i∧e.i<day∧e.o=e.i+(e.t - e.f)∧e.o<day)
theorem vEv_iff {e:Ev} {least day:Int}:vEv e least day=true↔VE e least day:=by
 unfold vEv vKd vRl
 simp only [Bool.and_eq_true,Bool.or_eq_true,decide_eq_true_eq]
 constructor
 ·rintro ⟨⟨h1,h2⟩,h3⟩
  refine⟨by rcases h1 with (h1 | h1) | h1;exact .inl h1;exact .inr (.inl h1);exact .inr (.inr h1),h2.1,h2.2.1,h2.2.2.1,h2.2.2.2,?_⟩
  split at h3
  ·rename_i h
   exact .inl ⟨h,of_decide_eq_true h3⟩
  ·rename_i h
   rw [Bool.and_eq_true,decide_eq_true_eq] at h3
   exact .inr ⟨h,h3⟩
 ·intro h
  refine⟨⟨by rcases h.kd with h1 | h1 | h1;exact .inl (.inl h1);exact .inl (.inr h1);exact .inr h1,h.l,h.ft,h.d,h.fr⟩,?_⟩
  rcases h.rl with h1 | h1
  ·rw [if_pos h1.1];exact decide_eq_true h1.2
  ·rw [if_neg h1.1,Bool.and_eq_true,decide_eq_true_eq];exact h1.2
theorem vEvs_cons {day least:Int} {e:Ev} {l:List Ev}:vEvs day least (e :: l)=true↔VE e least day∧vEvs day e.t l=true:=by
 rw [vEvs,Bool.and_eq_true,vEv_iff]
theorem plS_valid {r:ByteArray} {n:Int} (hr:r.size=0∨nmB r=true) (h0:0≤n) (h1:n≤1099511627776):vSr (plS r n):=by
 unfold plS
 split
 ·exact .inl rfl
 ·rename_i h
  refine .inr ⟨.inl rfl,hr.elim (fun e=>absurd e h) id,vB_true (by simp only;omega) (by simp only;omega) (by unfold gc;simp),vB_true (by simp only;omega) (by simp only;omega) (by unfold gc;simp),by simp only;omega,by simp only;omega,by simp only;omega,by simp only;omega,?_⟩
  unfold bsS gc
  simp
def cutC (n:Int) (s:Sr):Cl:=⟨n,1,s,blkS,0,0,0,noTx,0,[]⟩
def gapC (n:Int):Cl:=⟨n,0,blkS,blkS,0,0,0,noTx,0,[]⟩
def mixC (e:Ev) (bf:Sr):Cl:=⟨e.fr,e.k+1,bf,plS e.reel e.i,0,e.fr,e.p,noTx,0,[]⟩
def evM (bf:Sr) (e:Ev):List Cl:=if e.fr≤0 then [] else [mixC e bf]
def evR (e:Ev):List Cl:=if e.t - e.f - e.fr≤0 then [] else [cutC (e.t - e.f - e.fr) (plS e.reel (e.i+e.fr))]
def evC (bf:Sr) (e:Ev):List Cl:=evM bf e ++ evR e
def trk:Int→Sr→List Ev→List Cl
 | _,_,[]=>[]
 | n,bf,e :: l=>(if n<e.f then gapC (e.f - n) :: evC blkS e else evC bf e) ++ trk e.t (plS e.reel e.o) l
theorem VE.reel {e:Ev} {n day:Int} (h:VE e n day):e.reel.size=0∨nmB e.reel=true:=by
 rcases h.rl with h | h
 ·exact .inl h.1
 ·exact .inr h.2.1
theorem VE.bounds {e:Ev} {n day:Int} (h:VE e n day) (h0:0≤n):0≤e.i∧0≤e.o∧e.i≤day∧e.o≤day∧0≤e.fr:=by
 have h1:=h.l
 have h2:=h.ft
 have h3:=h.d
 have h4:0≤e.fr:=by rcases h.kd with h | h | h <;> omega
 rcases h.rl with h | h
 ·omega
 ·omega
theorem VE.after {e:Ev} {n day:Int} (h:VE e n day) (h0:0≤n) (hd:day≤5184000):vSr (plS e.reel e.o):=by
 obtain⟨b1,b2,b3,b4,b5⟩:=h.bounds h0
 exact plS_valid h.reel b2 (by omega)
def endE:Int→List Ev→Int
 | n,[]=>n
 | _,e :: l=>endE e.t l
theorem endE_snoc:∀ (a:List Ev) (e:Ev) (n:Int),endE n (a ++ [e])=e.t
 | [],e,n=>rfl
 | x :: a,e,n=>endE_snoc a e x.t
end Go.Proofs.YtgbiodnfpbhjiaaGreatDoor
