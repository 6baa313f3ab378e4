/-
  Plain law of EdlShows: what a list of clips shows at a frame; packing keeps it; what the clips of a list of events show.
  Conditions: none.
-/
import Derived.Test.YtnginfangeikpaaGreatDoorWalkUe
import Derived.Test.YtnginfangeikpaaGreatDoorShS
namespace Go.Proofs.YtnginfangeikpaaGreatDoor
set_option linter.unusedVariables false
set_option linter.unusedSimpArgs false
def stL (r:ByteArray) (n:Int):Lf:=if r.size=0 then .blk else .src r n
def picL (s:Sr) (k:Int):Lf:=if s=blkS then .blk else .src s.nm (s.an+k)
theorem picL_pl (r:ByteArray) (i k:Int):picL (plS r i) k=stL r (i+k):=by
 unfold picL plS stL
 by_cases h:r.size=0
 ·rw [if_pos h,if_pos rfl,if_pos h]
 ·have hne:(⟨1,r,i,1,1,1,false⟩:Sr)≠blkS:=fun e=>by have:=congrArg Sr.k e;simp [blkS] at this
  rw [if_neg h,if_neg hne,if_neg h]
theorem picL_blk (k:Int):picL blkS k=.blk:=by unfold picL;rw [if_pos rfl]
def shN (x y:Int):Int:=x / gc x y
def shD (x y:Int):Int:=y / gc x y
def clX (c:Cl) (k:Int):Ex2:=
 if c.kind=0 then .lf .blk else if c.kind=1 then .lf (picL c.a k)
 else redX c.kind (shN (c.off+k+1) (c.tot+1)) (shD (c.off+k+1) (c.tot+1)) c.par (picL c.a k) (picL c.b k)
def shC:List Cl→Int→Ex2
 | [],_=>.lf .blk
 | c :: l,n=>if n<c.len then clX c n else shC l (n - c.len)
theorem tot_pos:∀ {a:List Cl},(∀ c∈a,0≤c.len)→0≤tot a
 | [],_=>Int.le_refl _
 | c :: a,h=>by
  have h1:=h c (List.mem_cons_self ..)
  have h2:=tot_pos (a:=a) (fun d hd=>h d (List.mem_cons_of_mem _ hd))
  show 0≤c.len+tot a
  omega
theorem shC_append:∀ (a b:List Cl) (n:Int),(∀ c∈a,0≤c.len)→0≤n→shC (a ++ b) n=if n<tot a then shC a n else shC b (n - tot a)
 | [],b,n,_,h0=>by
  rw [show tot []=0 from rfl,if_neg (by omega),Int.sub_zero];rfl
 | c :: a,b,n,h,h0=>by
  have h1:=h c (List.mem_cons_self ..)
  have h2:=tot_pos (a:=a) (fun d hd=>h d (List.mem_cons_of_mem _ hd))
  have ht:tot (c :: a)=c.len+tot a:=rfl
  show (if n<c.len then clX c n else shC (a ++ b) (n - c.len))=if n<tot (c :: a) then (if n<c.len then clX c n else shC a (n - c.len)) else _
  by_cases h3:n<c.len
  ·rw [if_pos h3,if_pos h3,if_pos (by omega)]
  ·rw [if_neg h3,if_neg h3,shC_append a b (n - c.len) (fun d hd=>h d (List.mem_cons_of_mem _ hd)) (by omega)]
   by_cases h4:n - c.len<tot a
   ·rw [if_pos h4,if_pos (by omega)]
   ·rw [if_neg h4,if_neg (by omega),ht]
    congr 1
    omega
structure PlC (c:Cl):Prop where
 len:1≤c.len∧c.len≤2147483647
 kd:c.kind=0∨c.kind=1∨c.kind=2∨c.kind=3
 a:∃ r i,c.a=plS r i∧0≤i∧i≤1099511627776
 b:∃ r i,c.b=plS r i∧0≤i∧i≤1099511627776
theorem PlC.longer {m:Cl} (hm:PlC m) {n:Int} (h0:0≤n) (h:m.len+n≤2147483647):PlC (longer m n):=⟨by rw [longer_len];have:=hm.len;omega,hm.kd,hm.a,hm.b⟩
theorem clX_longer (m:Cl) (n k:Int):clX (longer m n) k=clX m k:=rfl
theorem clX_cont {m c:Cl} (hm:PlC m) (h:cont m c=true) (k:Int):clX c k=clX m (m.len+k):=by
 unfold cont at h
 rw [Bool.or_eq_true,decide_eq_true_eq,decide_eq_true_eq] at h
 rcases h with ⟨h1,h2⟩ | h
 ·unfold clX
  rw [if_pos h1,if_pos h2]
 ·obtain⟨r1,i1,ha,ha0,ha1⟩:=hm.a
  obtain⟨r2,i2,hb,hb0,hb1⟩:=hm.b
  have hl:=hm.len
  rw [← h]
  have e1:(nxt m c.len).kind=m.kind:=rfl
  have e2:(nxt m c.len).a=plS r1 (i1+m.len):=by
   show mvS m.a m.len=_
   rw [ha,plS_mv _ (by omega) (by omega)]
  have e3:(nxt m c.len).b=plS r2 (i2+m.len):=by
   show mvS m.b m.len=_
   rw [hb,plS_mv _ (by omega) (by omega)]
  have e4:(nxt m c.len).tot=m.tot:=rfl
  have e5:(nxt m c.len).par=m.par:=rfl
  have e6:(nxt m c.len).off=if shr m.kind then m.off+m.len else m.off:=rfl
  unfold clX
  rw [e1,e2,e3,e4,e5,e6,ha,hb,picL_pl,picL_pl,picL_pl,picL_pl]
  have q1:i1+m.len+k=i1+(m.len+k):=by omega
  have q2:i2+m.len+k=i2+(m.len+k):=by omega
  rw [q1,q2]
  by_cases k0:m.kind=0
  ·rw [if_pos k0,if_pos k0]
  ·by_cases k1:m.kind=1
   ·rw [if_neg k0,if_neg k0,if_pos k1,if_pos k1]
   ·have ks:shr m.kind=true:=by
     unfold shr
     rw [decide_eq_true_eq]
     rcases hm.kd with h | h | h | h
     ·exact absurd h k0
     ·exact absurd h k1
     ·exact .inl h
     ·exact .inr h
    rw [if_neg k0,if_neg k0,if_neg k1,if_neg k1,if_pos ks]
    have q3:m.off+m.len+k+1=m.off+(m.len+k)+1:=by omega
    rw [q3]
theorem shC_pkGo:∀ (l:List Cl) (m:Cl) (n:Int),PlC m→(∀ c∈l,PlC c)→m.len+tot l≤2147483647→shC (pkGo m l) n=shC (m :: l) n
 | [],m,n,_,_,_=>rfl
 | c :: l,m,n,hm,hl,ht=>by
  have hc:=hl c (List.mem_cons_self ..)
  have hl2:∀ d∈l,PlC d:=fun d hd=>hl d (List.mem_cons_of_mem _ hd)
  have h1:=hm.len
  have h2:=hc.len
  have h3:=tot_pos (a:=l) (fun d hd=>by have:=(hl2 d hd).len;omega)
  have h4:tot (c :: l)=c.len+tot l:=rfl
  unfold pkGo
  by_cases hk:cont m c=true
  ·rw [if_pos hk,shC_pkGo l (longer m c.len) n (hm.longer (by omega) (by omega)) hl2 (by rw [longer_len];omega)]
   show (if n<(longer m c.len).len then clX (longer m c.len) n else shC l (n - (longer m c.len).len))=if n<m.len then clX m n else if n - m.len<c.len then clX c (n - m.len) else shC l (n - m.len - c.len)
   rw [longer_len,clX_longer]
   by_cases g1:n<m.len
   ·rw [if_pos g1,if_pos (by omega)]
   ·rw [if_neg g1]
    by_cases g2:n - m.len<c.len
    ·rw [if_pos g2,if_pos (by omega),clX_cont hm hk]
     congr 1
     omega
    ·rw [if_neg g2,if_neg (by omega)]
     congr 1
     omega
  ·rw [if_neg hk]
   show (if n<m.len then clX m n else shC (pkGo c l) (n - m.len))=if n<m.len then clX m n else shC (c :: l) (n - m.len)
   rw [shC_pkGo l c (n - m.len) hc hl2 (by omega)]
theorem shC_pk {l:List Cl} (n:Int) (h:∀ c∈l,PlC c) (ht:tot l≤2147483647):shC (pk l) n=shC l n:=by
 cases l with
 | nil=>rfl
 | cons c l=>exact shC_pkGo l c n (h c (List.mem_cons_self ..)) (fun d hd=>h d (List.mem_cons_of_mem _ hd)) ht
theorem pk_plc {l:List Cl} (h:∀ c∈l,PlC c) (ht:tot l≤2147483647):∀ c∈pk l,PlC c:=
 pk_all (P:=PlC) (fun m c hm hc _ hl=>hm.longer (by have:=hc.len;omega) hl) (fun c hc=>hc.len.1) h ht
def PlS (s:Sr):Prop:=∃ r i,s=plS r i∧0≤i∧i≤1099511627776
theorem PlS.blk:PlS blkS:=⟨noTx,0,by rw [plS_zero rfl],by omega,by omega⟩
theorem PlS.reel {e:Ev} {n day:Int} (h:VE e n day) (h0:0≤n) (hd:day≤5184000):PlS (plS e.reel e.o):=⟨e.reel,e.o,rfl,(h.bounds h0).2.1,by have:=(h.bounds h0).2.2.2.1;omega⟩
theorem evC_plc {e:Ev} {n day:Int} {bf:Sr} (h:VE e n day) (h0:0≤n) (hd:day≤5184000) (hb:PlS bf):∀ c∈evC bf e,PlC c:=by
 obtain⟨b1,b2,b3,b4,b5⟩:=h.bounds h0
 have h1:=h.l
 have h2:=h.ft
 have h3:=h.d
 have h4:=h.fr
 intro c hc
 rcases List.mem_append.1 hc with hc | hc
 ·unfold evM at hc
  split at hc
  ·cases hc
  ·rw [List.mem_singleton] at hc
   subst hc
   exact⟨by simp only [mixC];omega,by simp only [mixC];rcases h.kd with h | h | h <;> omega,hb,⟨e.reel,e.i,rfl,by omega,by omega⟩⟩
 ·unfold evR at hc
  split at hc
  ·cases hc
  ·rw [List.mem_singleton] at hc
   subst hc
   exact⟨by simp only [cutC];omega,.inr (.inl rfl),⟨e.reel,_,rfl,by omega,by omega⟩,PlS.blk⟩
theorem gapC_plc {n:Int} (h0:1≤n) (h1:n≤2147483647):PlC (gapC n):=⟨⟨h0,h1⟩,.inl rfl,PlS.blk,PlS.blk⟩
theorem trk_plc {day:Int} (hd:day≤5184000):∀ {l:List Ev} {n:Int} {bf:Sr},vEvs day n l=true→0≤n→PlS bf→∀ c∈trk n bf l,PlC c
 | [],_,_,_,_,_,c,hc=>by cases hc
 | e :: l,n,bf,h,h0,hb,c,hc=>by
  obtain⟨h1,h2⟩:=vEvs_cons.1 h
  have g1:=h1.l
  have g2:=h1.ft
  have g3:=h1.d
  rw [trk_cons] at hc
  rcases List.mem_append.1 hc with hc | hc
  ·unfold adds at hc
   split at hc
   ·rcases List.mem_cons.1 hc with rfl | hc
    ·exact gapC_plc (by omega) (by omega)
    ·exact evC_plc h1 h0 hd PlS.blk c hc
   ·exact evC_plc h1 h0 hd hb c hc
  ·exact trk_plc hd h2 (by omega) (PlS.reel h1 h0 hd) c hc
def evX (bf:Sr) (e:Ev) (k:Int):Ex2:=
 if k<e.fr then redX (e.k+1) (shN (k+1) (e.fr+1)) (shD (k+1) (e.fr+1)) e.p (picL bf k) (stL e.reel (e.i+k)) else .lf (stL e.reel (e.i+k))
theorem shC_evC {e:Ev} {n day:Int} {bf:Sr} (h:VE e n day) (h0:0≤n) {k:Int} (k0:0≤k) (k1:k<e.t - e.f):shC (evC bf e) k=evX bf e k:=by
 obtain⟨b1,b2,b3,b4,b5⟩:=h.bounds h0
 unfold evC evX
 have hM:(evM bf e=[]∧e.fr≤0)∨(evM bf e=[mixC e bf]∧0<e.fr):=by
  unfold evM
  by_cases g:e.fr≤0
  ·rw [if_pos g];exact .inl ⟨rfl,g⟩
  ·rw [if_neg g];exact .inr ⟨rfl,by omega⟩
 have hcut:∀ m:Int,0≤m→m+e.fr<e.t - e.f→shC (evR e) m=.lf (stL e.reel (e.i+(m+e.fr))):=fun m m0 m1=>by
  rw [evR_pos (by omega)]
  show (if m<e.t - e.f - e.fr then clX _ m else _)=_
  rw [if_pos (by omega)]
  show Ex2.lf (picL (plS e.reel (e.i+e.fr)) m)=_
  rw [picL_pl]
  congr 2
  omega
 rcases hM with ⟨hM,hf⟩ | ⟨hM,hf⟩
 ·rw [hM,List.nil_append,if_neg (by omega),hcut k k0 (by omega),show e.fr=0 by omega,Int.add_zero]
 ·rw [hM]
  show (if k<(mixC e bf).len then clX (mixC e bf) k else shC (evR e) (k - (mixC e bf).len))=_
  have hl:(mixC e bf).len=e.fr:=rfl
  rw [hl]
  by_cases g:k<e.fr
  ·rw [if_pos g,if_pos g]
   have hk:(mixC e bf).kind=e.k+1:=rfl
   have h2:e.k=1∨e.k=2:=by rcases h.kd with h | h | h <;> omega
   unfold clX
   rw [hk,if_neg (by omega),if_neg (by omega)]
   show redX (e.k+1) (shN (0+k+1) (e.fr+1)) (shD (0+k+1) (e.fr+1)) e.p (picL bf k) (picL (plS e.reel e.i) k)=_
   rw [picL_pl,Int.zero_add]
  ·rw [if_neg g,if_neg g,hcut _ (by omega) (by omega)]
   congr 3
   omega
theorem len_nn {l:List Cl} (h:∀ c∈l,PlC c):∀ c∈l,0≤c.len:=fun c hc=>by have:=(h c hc).len;omega
theorem shC_trk {day:Int} (hd:day≤5184000) {pre post:List Ev} {e:Ev} (h:vEvs day 0 (pre ++ e :: post)=true) :
  (∀ n,endE 0 pre≤n→n<e.f→shC (trk 0 blkS (pre ++ e :: post)) n=.lf .blk) ∧
  (∀ k,0≤k→k<e.t - e.f→shC (trk 0 blkS (pre ++ e :: post)) (e.f+k)=evX (bfR pre.reverse e.f) e k):=by
 have hle:=endE_le h
 obtain⟨hpre,hrest⟩:=vEvs_mid h
 obtain⟨he,hpost⟩:=vEvs_cons.1 hrest
 have hp0:=(endE_ge hpre).1
 have htot:=trk_tot (bf:=blkS) hpre
 have hplc:=trk_plc hd hpre (Int.le_refl _) PlS.blk
 have hall:=trk_plc hd h (Int.le_refl _) PlS.blk
 have e1:trk 0 blkS (pre ++ e :: post)=trk 0 blkS pre ++ (adds (endE 0 pre) (bfE blkS pre) e ++ trk e.t (plS e.reel e.o) post):=by
  rw [trk_append,trk_cons]
 have hadd:=bfR_adds pre e hle
 have hat:=adds_tot (bf:=bfE blkS pre) he
 rw [e1] at hall
 have hadp:∀ c∈adds (endE 0 pre) (bfE blkS pre) e,0≤c.len:=len_nn (fun c hc=>hall c (List.mem_append.2 (.inr (List.mem_append.2 (.inl hc)))))
 rw [e1]
 have step:∀ n,endE 0 pre≤n→n<e.t→shC (trk 0 blkS pre ++ (adds (endE 0 pre) (bfE blkS pre) e ++ trk e.t (plS e.reel e.o) post)) n=shC (adds (endE 0 pre) (bfE blkS pre) e) (n - endE 0 pre):=fun n h1 h2=>by
  rw [shC_append _ _ n (len_nn hplc) (by omega),if_neg (by omega),htot,Int.sub_zero,shC_append _ _ _ hadp (by omega),if_pos (by omega)]
 have ft:=he.ft
 refine⟨fun n h1 h2=>?_,fun k k0 k1=>?_⟩
 ·rw [step n h1 (by omega),hadd,if_pos (by omega)]
  show (if n - endE 0 pre<(gapC (e.f - endE 0 pre)).len then clX (gapC (e.f - endE 0 pre)) (n - endE 0 pre) else _)=_
  rw [if_pos (by show n - endE 0 pre<e.f - endE 0 pre;omega)]
  rfl
 ·rw [step _ (by omega) (by omega),hadd]
  by_cases g:endE 0 pre<e.f
  ·rw [if_pos g]
   show (if e.f+k - endE 0 pre<(gapC (e.f - endE 0 pre)).len then _ else shC (evC (bfR pre.reverse e.f) e) (e.f+k - endE 0 pre - (gapC (e.f - endE 0 pre)).len))=_
   rw [if_neg (by show ¬ e.f+k - endE 0 pre<e.f - endE 0 pre;omega)]
   rw [show e.f+k - endE 0 pre - (gapC (e.f - endE 0 pre)).len=k by show e.f+k - endE 0 pre - (e.f - endE 0 pre)=k;omega]
   exact shC_evC he hp0 k0 k1
  ·rw [if_neg g,List.nil_append,show e.f+k - endE 0 pre=k by omega]
   exact shC_evC he hp0 k0 k1
theorem shC_end:∀ {l:List Cl} {n:Int},(∀ c∈l,0≤c.len)→tot l≤n→shC l n=.lf .blk
 | [],n,_,_=>rfl
 | c :: l,n,h,hn=>by
  have h2:=tot_pos (a:=l) (fun d hd=>h d (List.mem_cons_of_mem _ hd))
  have ht:tot (c :: l)=c.len+tot l:=rfl
  show (if n<c.len then clX c n else shC l (n - c.len))=_
  rw [if_neg (by omega)]
  exact shC_end (fun d hd=>h d (List.mem_cons_of_mem _ hd)) (by omega)
theorem shC_trkL {day:Int} (hd0:0<day) (hd:day≤5184000) {es:List Ev} (h:vEvs day 0 es=true) (n:Int):shC (trkL es) n=shC (trk 0 blkS es) n:=by
 have h1:=trk_plc hd h (Int.le_refl _) PlS.blk
 have h2:=trk_tot (bf:=blkS) h
 have h3:=(endE_ge h).2 hd0
 exact shC_pk n h1 (by omega)
end Go.Proofs.YtnginfangeikpaaGreatDoor
