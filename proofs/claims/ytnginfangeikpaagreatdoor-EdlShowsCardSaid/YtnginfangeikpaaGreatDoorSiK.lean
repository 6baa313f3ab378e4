/-
  Plain law of EdlShows: what the clips of the law's track are; what its frames show.
  Conditions: none.
-/
import Derived.Test.YtnginfangeikpaaGreatDoorShI
import Derived.Test.YtnginfangeikpaaGreatDoorShT
import Derived.Test.YtnginfangeikpaaGreatDoorSiC
import Derived.Test.YtnginfangeikpaaGreatDoorWalkEh
import Derived.Test.YtnginfangeikpaaGreatDoorWalkTp
import Derived.Test.YtnginfangeikpaaGreatDoorShK
import Derived.Test.YtnginfangeikpaaGreatDoorMem
import Derived.Deep.DeepCutAuto
import Derived.Great.BuildSlice
namespace Go.Proofs.YtnginfangeikpaaGreatDoor
set_option linter.unusedVariables false
set_option linter.unusedSimpArgs false
def SrJ (s:Sr) (n:Int):Prop:=s=blkS∨∃ q i,q<3∧s=plS (nmK q) i∧0≤i∧i+n≤5000
structure LwC (c:Cl):Prop where
 len:1≤c.len
 gap:c.kind=0→c.a=blkS∧c.b=blkS
 a:SrJ c.a c.len
 b:SrJ c.b c.len
 so:c.gain=0∧c.ch=[]
theorem nmK_ne (q:Nat):(nmK q).size≠0:=by
 rcases q with _ | _ | q
 ·decide
 ·decide
 ·show (⟨#[116,97,112,101,95,55]⟩:ByteArray).size≠0
  decide
theorem reel_nmK {r:ByteArray} (h:r∈reelsL):∃ q,q<3∧r=nmK q:=by
 unfold reelsL at h
 simp only [List.mem_cons,List.not_mem_nil,or_false] at h
 rcases h with rfl | rfl | rfl
 ·exact⟨0,by omega,rfl⟩
 ·exact⟨1,by omega,rfl⟩
 ·exact⟨2,by omega,rfl⟩
theorem plS_ne {q:Nat} {i:Int}:plS (nmK q) i≠blkS:=fun e=>by
 unfold plS at e
 rw [if_neg (nmK_ne q)] at e
 have:=congrArg Sr.k e
 simp [blkS] at this
theorem SrJ.longer {s t:Sr} {m n:Int} (h0:1≤m) (h1:m+n≤2147483647) (h2:1≤n) (hs:SrJ s m) (ht:SrJ t n) (h:mvS s m=t):SrJ s (m+n):=by
 rcases hs with hs | ⟨q,i,hq,rfl,hi,hi2⟩
 ·exact .inl hs
 ·rw [plS_mv _ (by omega) (by omega)] at h
  rcases ht with ht | ⟨q',i',hq',rfl,hi',hi2'⟩
  ·exact absurd (h.trans ht) plS_ne
  ·rcases plS_eq h with ⟨h3,_⟩ | ⟨_,_,_,h4⟩
   ·exact absurd h3 (nmK_ne q)
   ·exact .inr ⟨q,i,hq,rfl,hi,by omega⟩
theorem LwC.longer {m c:Cl} (hm:LwC m) (hc:LwC c) (h:cont m c=true) (hl:m.len+c.len≤2147483647):LwC (longer m c.len):=by
 have h1:=hm.len
 have h2:=hc.len
 unfold cont at h
 rw [Bool.or_eq_true,decide_eq_true_eq,decide_eq_true_eq] at h
 refine⟨by rw [longer_len];omega,hm.gap,?_,?_,hm.so⟩
 ·show SrJ m.a (m.len+c.len)
  rcases h with ⟨h3,_⟩ | h3
  ·exact .inl (hm.gap h3).1
  ·exact SrJ.longer h1 hl h2 hm.a hc.a (by rw [← h3];rfl)
 ·show SrJ m.b (m.len+c.len)
  rcases h with ⟨h3,_⟩ | h3
  ·exact .inl (hm.gap h3).2
  ·exact SrJ.longer h1 hl h2 hm.b hc.b (by rw [← h3];rfl)
def EvJ (e:Ev):Prop:=e.o≤2072∧(e.reel.size=0∨e.reel∈reelsL)
theorem SrJ.reel {e:Ev} (h:EvJ e) {i n:Int} (h0:0≤i) (h1:i+n≤5000):SrJ (plS e.reel i) n:=by
 rcases h.2 with h2 | h2
 ·exact .inl (plS_zero h2 i)
 ·obtain⟨q,hq,e2⟩:=reel_nmK h2
  exact .inr ⟨q,i,hq,by rw [e2],h0,h1⟩
theorem SrJ.of_size {e:Ev} (h:EvJ e) {i n:Int} (h1:e.reel.size≠0→0≤i∧i+n≤5000):SrJ (plS e.reel i) n:=by
 by_cases h2:e.reel.size=0
 ·exact .inl (plS_zero h2 i)
 ·exact SrJ.reel h (h1 h2).1 (h1 h2).2
theorem evC_lw {e:Ev} {n day:Int} {bf:Sr} (h:VE e n day) (h0:0≤n) (hj:EvJ e) (hb:SrJ bf 999):∀ c∈evC bf e,LwC c:=by
 have h1:=h.l
 have h2:=h.ft
 have h3:=h.d
 have h4:=h.fr
 have h5:=hj.1
 have hk:=h.kd
 have hr:e.reel.size≠0→0≤e.i∧e.o=e.i+(e.t - e.f):=fun hs=>by
  rcases h.rl with ⟨q,_⟩ | ⟨_,_,q1,_,q2,_⟩
  ·exact absurd q hs
  ·exact⟨q1,q2⟩
 intro c hc
 rcases List.mem_append.1 hc with hc | hc
 ·unfold evM at hc
  split at hc
  ·cases hc
  ·rw [List.mem_singleton] at hc
   subst hc
   have hf:1≤e.fr:=by omega
   refine⟨hf,fun hz=>?_,?_,?_,⟨rfl,rfl⟩⟩
   ·have:e.k+1=0:=hz
    omega
   ·show SrJ bf e.fr
    rcases hb with hb | ⟨q,i,hq,e1,hi,hi2⟩
    ·exact .inl hb
    ·exact .inr ⟨q,i,hq,e1,hi,by omega⟩
   ·exact SrJ.of_size hj (fun hs=>by have:=hr hs;simp only [mixC];omega)
 ·unfold evR at hc
  split at hc
  ·cases hc
  ·rw [List.mem_singleton] at hc
   subst hc
   refine⟨by simp only [cutC];omega,fun hz=>?_,?_,.inl rfl,⟨rfl,rfl⟩⟩
   ·have:(1:Int)=0:=hz
    omega
   ·refine SrJ.of_size hj (fun hs=>?_)
    have:=hr hs
    simp only [cutC]
    omega
theorem gapC_lw {n:Int} (h:1≤n):LwC (gapC n):=⟨h,fun _=>⟨rfl,rfl⟩,.inl rfl,.inl rfl,⟨rfl,rfl⟩⟩
theorem trk_lw {day:Int}:∀ {l:List Ev} {n:Int} {bf:Sr},vEvs day n l=true→0≤n→SrJ bf 999→(∀ e∈l,EvJ e)→∀ c∈trk n bf l,LwC c
 | [],_,_,_,_,_,_,c,hc=>by cases hc
 | e :: l,n,bf,h,h0,hb,hj,c,hc=>by
  obtain⟨h1,h2⟩:=vEvs_cons.1 h
  have g1:=h1.l
  have g2:=h1.ft
  have je:=hj e (List.mem_cons_self ..)
  rw [trk_cons] at hc
  rcases List.mem_append.1 hc with hc | hc
  ·unfold adds at hc
   split at hc
   ·rcases List.mem_cons.1 hc with rfl | hc
    ·exact gapC_lw (by omega)
    ·exact evC_lw h1 h0 je (.inl rfl) c hc
   ·exact evC_lw h1 h0 je hb c hc
  ·refine trk_lw h2 (by omega) ?_ (fun d hd=>hj d (List.mem_cons_of_mem _ hd)) c hc
   have:=je.1
   refine SrJ.reel je ?_ (by omega)
   exact (h1.bounds h0).2.1
theorem made_evs {l:El} (h:MadeE l):∀ e∈l.evs,EvJ e:=fun e he=>h.o e he
theorem made_len {l:El} (h:MadeE l):(trkL l.evs).length≤18:=by
 have h1:=pk_len (trk 0 blkS l.evs)
 have h2:(trk 0 blkS l.evs).length≤3 * l.evs.length:=trk_len
 have h3:=h.n
 unfold trkL
 omega
theorem made_tot {l:El} (h:MadeE l):tot (trk 0 blkS l.evs)=endE 0 l.evs∧0≤endE 0 l.evs∧endE 0 l.evs<30000:=by
 have h1:=trk_tot (bf:=blkS) h.v
 have h2:=endE_ge h.v
 exact⟨by omega,h2.1,h2.2 (by omega)⟩
theorem made_lw {l:El} (h:MadeE l):∀ c∈trkL l.evs,LwC c:=by
 have ht:=made_tot h
 exact pk_all (P:=LwC) (fun m c hm hc hk hl=>hm.longer hc hk hl) (fun c hc=>hc.len) (trk_lw h.v (Int.le_refl _) (.inl rfl) (made_evs h)) (by omega)
theorem SrJ.k {s:Sr} {n:Int} {P:Prop} (h:SrJ s n) (h0:1≤n):SrK s n P:=by
 rcases h with rfl | ⟨q,i,hq,rfl,hi,hi2⟩
 ·exact⟨noTx,0,(plS_zero rfl 0).symm,by omega,by omega,by decide,fun _ h=>absurd rfl h⟩
 ·exact⟨nmK q,i,rfl,hi,by omega,by have:=nmK_size q;omega,fun _ _=>⟨⟨q,hq,rfl⟩,hi2⟩⟩
theorem SrJ.n {s:Sr} {n:Int} (h:SrJ s n):SrN s:=by
 rcases h with rfl | ⟨q,i,hq,rfl,hi,hi2⟩
 ·exact⟨noTx,0,(plS_zero rfl 0).symm,by decide,fun h=>absurd rfl h⟩
 ·exact⟨nmK q,i,rfl,by have:=nmK_size q;omega,fun _=>⟨q,hq,rfl⟩⟩
theorem made_ck {l:El} (h:MadeE l):∀ c∈trkL l.evs,ClK c:=by
 have h1:=made_lw h
 have h2:=(trkL_vc (by omega) (by omega) h.v).1
 have h3:∀ c∈trkL l.evs,PlC c:=pk_plc (trk_plc (by omega) h.v (Int.le_refl _) PlS.blk) (by have:=made_tot h;omega)
 intro c hc
 obtain⟨a1,a2,a3,a4,_⟩:=h1 c hc
 obtain⟨b1,b2,b3,b4,b5,b6⟩:=h2 c hc
 have kd:=(h3 c hc).kd
 have hot:(0≤c.off∧c.off≤2147483647)∧(0≤c.tot∧c.tot≤2147483647):=by
  rcases b6 with ⟨_,_,_,q1,q2,_⟩ | ⟨_,_,q1,q2,_⟩ | ⟨_,⟨q1,q2,q3,q4⟩,_⟩ | ⟨_,⟨q1,q2,q3,q4⟩,_⟩ | ⟨_,q1,q2,_⟩ | ⟨_,_,q1,q2,_⟩
  ·omega
  ·omega
  ·omega
  ·omega
  ·omega
  ·omega
 exact⟨⟨by omega,b1.2⟩,kd,hot.1,hot.2,a3.k a1,a4.k a1⟩
theorem made_vt {l:El} (h:MadeE l):VT (trkL l.evs):=trkL_vt (by omega) (by omega) h.v (by have:=made_len h;omega)
theorem made_trk_tot {l:El} (h:MadeE l):tot (trkL l.evs)=endE 0 l.evs:=by
 unfold trkL
 rw [pk_tot]
 exact (made_tot h).1
def befL (pre:List Ev) (e:Ev) (k:Int):Lf:=
 match pre.getLast? with
 | none=>.blk
 | some x=>if x.t=e.f then stL x.reel (x.o+k) else .blk
theorem befL_eq (pre:List Ev) (e:Ev) (k:Int):picL (bfR pre.reverse e.f) k=befL pre e k:=by
 unfold befL
 rcases List.eq_nil_or_concat pre with rfl | ⟨p,x,rfl⟩
 ·exact picL_blk k
 ·rw [List.concat_eq_append,List.reverse_append,List.getLast?_append]
  show picL (if x.t=e.f then plS x.reel x.o else blkS) k=if x.t=e.f then _ else _
  by_cases hx:x.t=e.f
  ·rw [if_pos hx,if_pos hx,picL_pl]
   rfl
  ·rw [if_neg hx,if_neg hx,picL_blk]
def lawX (pre:List Ev) (e:Ev) (k:Int):Ex2:=
 if k<e.fr then redX (e.k+1) (shN (k+1) (e.fr+1)) (shD (k+1) (e.fr+1)) e.p (befL pre e k) (stL e.reel (e.i+k)) else .lf (stL e.reel (e.i+k))
theorem made_shows {l:El} (h:MadeE l) {pre post:List Ev} {e:Ev} (he:l.evs=pre ++ e :: post) :
  (∀ n,endE 0 pre≤n→n<e.f→shC (trkL l.evs) n=.lf .blk)∧(∀ k,0≤k→k<e.t - e.f→shC (trkL l.evs) (e.f+k)=lawX pre e k):=by
 have hv:=h.v
 have h2:=shC_trk (day:=30000) (by omega) (pre:=pre) (post:=post) (e:=e) (by rw [← he];exact hv)
 refine⟨fun n a b=>?_,fun k a b=>?_⟩
 ·rw [shC_trkL (by omega) (by omega) hv,he]
  exact h2.1 n a b
 ·rw [shC_trkL (by omega) (by omega) hv,he,h2.2 k a b]
  unfold evX lawX
  rw [befL_eq]
theorem made_end {l:El} (h:MadeE l):shC (trkL l.evs) (endE 0 l.evs)=.lf .blk:=
 shC_end (fun c hc=>by have:=(made_lw h c hc).len;omega) (by rw [made_trk_tot h];exact Int.le_refl _)
end Go.Proofs.YtnginfangeikpaaGreatDoor

namespace Go.Proofs.YtnginfangeikpaaGreatDoor
open Go.RowKit Go.Lib
set_option linter.unusedSimpArgs false
set_option linter.unusedVariables false
theorem TrR.own {w:World} {v:Value} {ts:List CM} (h:TrR w v ts) (h0:0<ts.length):∀ b,v.ownBlock=some b→b<w.heap.size:=by
 obtain⟨a,cap,rfl,ha | ⟨b,o,rfl,hb,_⟩⟩:=h.shape
 ·omega
 ·intro c hc
  have:b=c:=by simpa [Value.ownBlock] using hc
  omega
theorem cues_none (w:World):Cues w (.slice none 0 0) []:=⟨CuesR.nil w,fun c hc=>(by cases hc),Nat.zero_le _⟩
theorem cues0 (w:World):Calls Tryz.prog 94 #[.slice none 0 0] w fun e w'=>e=.returned (.bool true)∧Gr w w':=tvalid_any _ [] w (cues_none w)
theorem seqC_bad {l:El} (hM:MadeE l) (TB:Nat) (tv:Value) (ts:List CM) (w:World) (hB:Blk w TB 28 [tv]) (hT:TrR w tv ts) (hts:ts.map CM.c=trkL l.evs) :
  Calls Tryz.prog 68 #[.agg (seqC TB).toArray] w fun e w'=>e=.returned (.bool false)∧Gr w w':=by
 have hl:ts.length≤64:=by
  have h1:=made_len hM
  rw [← hts,List.length_map] at h1
  omega
 have hvc:∀ c∈ts,VC c.c:=fun c hc=>(made_vt hM).vc _ (by rw [← hts];exact List.mem_map.2 ⟨c,hc,rfl⟩)
 have hlw:∀ c∈ts,LwC c.c:=fun c hc=>made_lw hM _ (by rw [← hts];exact List.mem_map.2 ⟨c,hc,rfl⟩)
 refine seq_core TB tv w hB (Lib.hid name_s) (Lib.hid cues0) (Lib.hid fun w' hg=>?_) (Lib.hid fun w' hg=>?_)
 ·have h:=vtrack_any ts tv w' (hT.gr hg) (fun c hc=>(hvc c hc).ok)
  rw [hts,(vtB_iff _).2 (made_vt hM)] at h
  exact h
 ·refine every_core 22 rfl ts tv w' (hT.gr hg) hl (Lib.hid fun c hc w''=>?_)
  obtain⟨a,cap,hcv⟩:=ChR.slice (hT.ch c hc)
  have hs:=(hlw c hc).so
  rw [hs.2] at hcv
  refine silent_ok c.cells a cap w'' ?_ ?_
  ·show some (Value.int .i64 c.c.gain)=_
   rw [hs.1]
  ·show some c.cv=_
   rw [hcv]
   rfl
theorem catS_size (TB:Nat):Maps.size (catS TB)=1:=rfl
theorem catD_size (mls:Nat→List Value):Maps.size (catD mls 3)=3:=by
 show Maps.size (((DataW.put (.map []) (Lit.string (nmK 0).data.toList) (.held (.agg (mls 0).toArray))).put (Lit.string (nmK 1).data.toList) (.held (.agg (mls 1).toArray))).put (Lit.string (nmK 2).data.toList) (.held (.agg (mls 2).toArray)):DataW Value)=3
 rfl
theorem tvalid_law {l:El} (hM:MadeE l) (MB mc SB TB:Nat) (mls:Nat→List Value) (tv:Value) (ts:List CM) (w:World) (hP0:PrjR w MB mls SB TB tv) (hT:TrR w tv ts) (hts:ts.map CM.c=trkL l.evs) :
  Calls Tryz.prog 39 #[.agg (prjV MB mc SB).toArray] w fun e w'=>e=.returned (.int .i64 0)∧Gr w w':=by
 have hl:ts.length≤64:=by
  have h1:=made_len hM
  rw [← hts,List.length_map] at h1
  omega
 have hlw:∀ c∈ts,LwC c.c:=fun c hc=>made_lw hM _ (by rw [← hts];exact List.mem_map.2 ⟨c,hc,rfl⟩)
 refine tvalid_core 9 rfl MB mc SB TB mls tv w hP0 (catD mls 3) (catS TB) (catD_size mls) (catS_size TB) (Lib.hid fun w' hg=>large_core 141 rfl MB mc SB TB mls tv w' (hP0.gr hg)) (Lib.hid fun w' hg=>?_) (Lib.hid fun w' hg=>?_) (Lib.hid fun w' hg=>?_)
 ·exact con_med3 MB mc SB TB mls tv w' (hP0.gr hg) (Lib.hid fun i hi w'' hg2=>medium_ok (mls i) (nmK i) 5000 _ [] w'' (hP0.med i hi) (Lib.hid fun w3=>name_k i w3) (by omega) (cues_none w'') rfl)
 ·exact con_seq1 SB TB w' (hP0.gr hg).seq (Lib.hid fun w'' hg2=>seqC_bad hM TB tv ts w'' ((hP0.gr hg).gr hg2).trk ((hT.gr hg).gr hg2) hts)
 ·refine (cat_core 141 rfl MB mc SB TB mls tv w' (hP0.gr hg)).mono ?_
  rintro e w2 ⟨b1,b2,rfl,hg2,hM1,hM2⟩
  have hg02:=hg.trans hg2
  refine⟨b1,b2,3,1,rfl,hg2,hM1,hM2,Lib.hid fun w3 hg3=>?_,Lib.hid fun w3 kb hg3 hK hkb=>?_⟩
  ·have hg03:=hg02.trans hg3
   exact complete_ok b1 b2 TB mls tv ts w3 (hM1.gr hg3) (hM2.gr hg3) hP0.med (hP0.gr hg03).trk (hT.gr hg03) (TrR.own (hT.gr hg03)) hl (fun x hx=>⟨(hlw x hx).a.n,(hlw x hx).b.n⟩)
  ·refine chain_core b1 b2 kb w3 hK (Lib.hid fun w4 hx=>?_)
   obtain⟨w5,hg5,hgr⟩:=hx
   have hg05:=(hg02.trans hg3).trans hg5
   have hlt:=hP0.trk.lt
   have hs:=hg02.size
   have hb2:=hM2.lt
   have hne:∀ b,b<w2.heap.size→(some kb:Option Nat)≠some b:=fun b hb e=>by injection e with e;omega
   have r1:=(hP0.gr hg05).trk.grown hgr (hne TB (by omega))
   have r2:TrR w4 tv ts:=by
    have hb:=TrR.own (hT.gr hg02)
    have hT5:=hT.gr hg05
    have hne2:ts.length=0∨tv.ownBlock≠some kb:=by
     rcases Nat.eq_zero_or_pos ts.length with h0 | h0
     ·exact .inl h0
     ·exact .inr fun e=>by have:=hb h0 kb e;omega
    refine⟨Rd.grown hgr (hne2.elim .inl (fun h=>.inr (.inl h))) hT5.rd,fun c hc=>?_⟩
    refine Rd.grown hgr (.inl ?_) (hT5.ch c hc)
    rw [(hlw c hc).so.2]
    rfl
   have r3:=((hM2.gr hg3).gr hg5).grown hgr (hne b2 hb2)
   exact named_core 22 9 rfl rfl b1 b2 TB tv ts w4 r1 r2 (TrR.own r2) hl r3 (Lib.hid fun x hx=>⟨(hlw x hx).a.n.k.1,(hlw x hx).b.n.k.1⟩) (Lib.hid fun w' mb h=>keys_none w' mb h)
end Go.Proofs.YtnginfangeikpaaGreatDoor

namespace Go.Proofs.YtnginfangeikpaaGreatDoor
open Go.RowKit Go.Lib
set_option linter.unusedSimpArgs false
set_option linter.unusedVariables false
theorem wpList_bs1g {P:Program} {ops:Array Oper} {rest:List Oper} {o:Oper} {a:Act} {w:World} {Q:Exit→Act→World→Prop} (hg:o.guard=none) (t e:TypeId) (x:Operand) (ho:o.op=.buildSlice t 1 #[(0,x)]) (n:Nat)
  (hu:P.underlying t=some (.slice e)) (hi:(P.info? e).map (fun i=>(i.zero.map fun z=>z.cells.size,i.size))=some (some n,n)) (h0:0<n) (h9:n≤16777216) (l:List Value) (hl:l.length=n) (hx:a.eval x=.agg l.toArray)
  (h:wpList P ops Q rest (a.put o.dst (.slice (some ⟨w.heap.size,0,none⟩) 1 1)) (w.alloc (.cells l.toArray e))):wpList P ops Q (o :: rest) a w:=by
 cases hq:P.info? e with
 | none=>simp [hq] at hi
 | some ie=>
  cases hz:ie.zero with
  | none=>simp [hq,hz] at hi
  | some z=>
   simp [hq,hz] at hi
   refine wpList_buildSlice hg t e 1 _ ho _ ie z hu hq hz (by rw [hi.2];omega) (by rw [hi.2];omega) ?_ h
   have:=Great.fill_whole h0 [Value.agg l.toArray] ((Array.range (1 * ie.size)).map (z.cells[· % z.cells.size]!)) (fun v hv=>by rw [List.mem_singleton.1 hv];simpa [Value.cells] using hl) (by simp [hi.2])
   simpa [hi.2,Value.cells,hx] using this
def seqQ:List Value:=[.int .i64 0,.int .i64 0,.int .i64 25,.int .i64 1,.bool false,.int .i64 0,.int .i64 0] ++ List.replicate 128 (.int .u8 0)
def medQ (nm:ByteArray):List Value:=[.string nm,.int .u64 0] ++ seqQ ++ [.int .i64 5000,.int .i64 0,.int .i64 0,.slice none 0 0]
theorem medQ_ok (nm:ByteArray):MedR (medQ nm) nm 5000 (.slice none 0 0) where
 n:=rfl
 one:=fun v hv=>by
  unfold medQ seqQ at hv
  simp only [List.mem_append,List.mem_cons,List.not_mem_nil,or_false,List.mem_replicate] at hv
  rcases hv with (((rfl | rfl) | (rfl | rfl | rfl | rfl | rfl | rfl | rfl) | ⟨_,rfl⟩) | (rfl | rfl | rfl | rfl)) <;> rfl
 c0:=rfl
 c4:=rfl
 c5:=rfl
 c137:=rfl
 c138:=rfl
 c139:=rfl
 c140:=rfl
def medF:Nat→List Value
 | 0=>[]
 | n+1=>medF n ++ medQ (nmK n)
theorem medF_len:∀ n,(medF n).length=n * 141
 | 0=>rfl
 | n+1=>by
  rw [show medF (n+1)=medF n ++ medQ (nmK n) from rfl,List.length_append,medF_len n,(medQ_ok (nmK n)).n]
  omega
theorem medF_at:∀ (n i j:Nat),i<n→j<141→(medF n)[i * 141+j]?=(medQ (nmK i))[j]?
 | 0,i,j,h,_=>absurd h (Nat.not_lt_zero _)
 | n+1,i,j,h,hj=>by
  rw [show medF (n+1)=medF n ++ medQ (nmK n) from rfl]
  rcases Nat.lt_or_ge i n with h2 | h2
  ·rw [List.getElem?_append_left (by rw [medF_len];omega)]
   exact medF_at n i j h2 hj
  ·obtain rfl:i=n:=by omega
   rw [List.getElem?_append_right (by rw [medF_len];omega),medF_len]
   congr 1
   omega
theorem infoMed9:(Tryz.prog.info? 70).map (fun i=>(i.zero.map fun z=>z.cells.size,i.size,i.bytes))=some (some 141,141,256):=by kernel_rfl
theorem names3 {jj:Nat} (h:jj<3):([.string ⟨#[97]⟩,.string ⟨#[109,49]⟩,.string ⟨#[116,97,112,101,95,55]⟩]:List Value)[jj]?=some (.string (nmK jj)):=by
 rcases jj with _ | _ | _ | jj
 ·rfl
 ·rfl
 ·rfl
 ·omega
theorem TrR_lt {w:World} {b:Nat} {n size cap:Nat} {xs:List Value} (h:Rd w (.slice (some ⟨b,0,none⟩) (n+1) cap) (n+1) size xs):b<w.heap.size:=by
 obtain⟨_,a,c,e,h0 | ⟨b',o,e2,hb,_⟩⟩:=h
 ·omega
 ·rw [e2] at e
  injection e with e1
  injection e1 with e1
  injection e1 with e1
  omega
set_option maxRecDepth 20000 in
set_option maxHeartbeats 8000000 in
theorem project_core (ta:Option Addr) (tn tc:Nat) (w:World) :
  Calls Tryz.prog 6 #[.slice ta tn tc] w fun e w'=>∃ MB mc SB TB,e=.returned (.agg (prjV MB mc SB).toArray)∧Gr w w'∧PrjR w' MB (fun i=>medQ (nmK i)) SB TB (.slice ta tn tc):=by
 obtain⟨im,him,him0⟩:∃ i,Tryz.prog.info? 70=some i∧(i.zero.map (fun z=>z.cells.size),i.size,i.bytes)=(some 141,141,256):=by
  have:=infoMed9
  cases h:Tryz.prog.info? 70 with
  | none=>rw [h] at this;cases this
  | some i=>rw [h] at this;exact⟨i,rfl,by simpa using this⟩
 obtain⟨zm,hzm,hzs⟩:∃ z,im.zero=some z∧z.cells.size=141:=by
  cases h:im.zero with
  | none=>rw [h] at him0;cases him0
  | some z=>rw [h] at him0;exact⟨z,rfl,by simpa using congrArg (·.1) him0⟩
 have him1:im.size=141:=congrArg (·.2.1) him0
 have him2:im.bytes=256:=congrArg (·.2.2) him0
 clear him0
 replace him:=Lib.hid him
 replace hzm:=Lib.hid hzm
 replace hzs:=Lib.hid hzs
 replace him1:=Lib.hid him1
 replace him2:=Lib.hid him2
 obtain⟨SL,hSL⟩:∃ SL,seqQ=SL:=⟨_,rfl⟩
 replace hSL:=Lib.hid hSL
 have hR0:=((Blk.new w [.slice none 0 0,.slice none 0 0] 35).gr ((Gr.refl _).alloc (.cells #[.slice none 0 0,.slice none 0 0] 35))).gr ((Gr.refl _).alloc (.cells #[.string ⟨#[97]⟩,.string ⟨#[109,49]⟩,.string ⟨#[116,97,112,101,95,55]⟩] 9))
 have hP0:=(blkE_at (w:=w.alloc (.cells #[.slice none 0 0,.slice none 0 0] 35)) (k:=w.heap.size+1) (by simp) [.slice none 0 0,.slice none 0 0] 35).gr ((Gr.refl _).alloc (.cells #[.string ⟨#[97]⟩,.string ⟨#[109,49]⟩,.string ⟨#[116,97,112,101,95,55]⟩] 9))
 have hX0:=blkE_at (w:=(w.alloc (.cells #[.slice none 0 0,.slice none 0 0] 35)).alloc (.cells #[.slice none 0 0,.slice none 0 0] 35)) (k:=w.heap.size+1+1) (by simp) [.string ⟨#[97]⟩,.string ⟨#[109,49]⟩,.string ⟨#[116,97,112,101,95,55]⟩] 9
 have hg0:Gr w (((w.alloc (.cells #[.slice none 0 0,.slice none 0 0] 35)).alloc (.cells #[.slice none 0 0,.slice none 0 0] 35)).alloc (.cells #[.string ⟨#[97]⟩,.string ⟨#[109,49]⟩,.string ⟨#[116,97,112,101,95,55]⟩] 9)):=(((Gr.refl w).alloc _).alloc _).alloc _
 have hbs:Hid ((((w.alloc (.cells #[.slice none 0 0,.slice none 0 0] 35)).alloc (.cells #[.slice none 0 0,.slice none 0 0] 35)).alloc (.cells #[.string ⟨#[97]⟩,.string ⟨#[109,49]⟩,.string ⟨#[116,97,112,101,95,55]⟩] 9)).heap.size=w.heap.size+1+1+1):=Lib.hid (by simp)
 go_enter Tryz.func6,Tryz.ntmps6
 go_wp2
 generalize (((w.alloc (.cells #[.slice none 0 0,.slice none 0 0] 35)).alloc (.cells #[.slice none 0 0,.slice none 0 0] 35)).alloc (.cells #[.string ⟨#[97]⟩,.string ⟨#[109,49]⟩,.string ⟨#[116,97,112,101,95,55]⟩] 9))=W at *
 obtain⟨PB,hPB⟩:∃ PB,w.heap.size=PB:=⟨_,rfl⟩
 rw [hPB] at hR0 hP0 hX0 hbs ⊢
 replace hPB:=Lib.hid hPB
 have hown0:W.ownsRow (PB+1+1+1) 70 141 (.slice none 0 0) 0 (medF 0):=World.ownsRow_nil _ _ _ _
 go_loopw [8] (fun v wr=>∃ (jj:Nat) (mv:Value),jj≤3∧v=.int .i64 jj∧Gr w wr∧PB+1+1+1≤wr.heap.size∧Blk wr PB 35 [.slice none 0 0,.slice none 0 0]∧Blk wr (PB+1) 35 [mv,.slice none 0 0]∧Blk wr (PB+1+1) 9 [.string ⟨#[97]⟩,.string ⟨#[109,49]⟩,.string ⟨#[116,97,112,101,95,55]⟩]∧wr.ownsRow (PB+1+1+1) 70 141 mv jj (medF jj)) (fun v _=>3 - (RowKit.intOf v).toNat)
 case atStart=>exact⟨0,_,by omega,rfl,hg0,by rw [hbs.out];exact Nat.le_refl _,hR0,hP0,hX0,hown0⟩
 case round=>
  obtain⟨jj,mv,hjj,rfl,hg,hsz,hR,hP,hX,hown⟩:=hrel
  clear hR0 hP0 hX0 hown0 hg0 hbs
  obtain⟨pa,pc,rfl⟩:=own_shape hown
  by_cases c1:jj<3
  ·have q1:decide ((jj:Int)<3)=true:=decide_eq_true (by omega)
   have x:=hX.lt
   have x0:=(hX.cel.2 jj _ (names3 c1)).1
   have p0:=hP.lt
   have p1:=(hP.cel.2 0 _ rfl).1
   have hfl:medF (jj+1)=medF jj ++ medQ (nmK jj):=rfl
   obtain⟨nm,hnm⟩:∃ nm,nmK jj=nm:=⟨_,rfl⟩
   rw [hnm] at x0 hfl
   obtain⟨ML,hML⟩:∃ ML,medQ nm=ML:=⟨_,rfl⟩
   have hM:MedR ML nm 5000 (.slice none 0 0):=by rw [← hML];exact medQ_ok nm
   rw [hML] at hfl
   replace hML:=Lib.hid hML
   replace hM:=Lib.hid hM
   replace hfl:=Lib.hid hfl
   replace hown:=Lib.hid hown
   clear hnm
   have hge:=own_ge hown.out
   have hgn:Gr wr (wr.alloc (.cells ML.toArray 70)):=(Gr.refl wr).alloc _
   have hge:=Lib.hid hge
   have hgnh:=Lib.hid hgn
   have hPn:=Lib.hid (hP.gr hgn)
   go_wp2_with (first
    | (refine wpList_buildTo rfl 66 #[(2,.tmp 15)] rfl (some 16) rfl SL.toArray (by rw [← hSL.out];kernel_rfl) ?_)
    | (refine wpList_buildTo rfl 70 #[(0,.tmp 14),(2,.tmp 16),(3,.const (.int .i64 5000))] rfl (some 17) rfl ML.toArray (by rw [← hML.out];show _=some _;simp only [Act.eval];rw [← hSL.out];kernel_rfl) ?_)
    | (refine wpList_bs1g rfl 32 70 (.tmp 17) rfl 141 Tryz.underlying32 (by as_aux_lemma=>kernel_rfl) (by decide) (by decide) ML hM.out.n rfl ?_)
    | (at_builtin;go_loud ((refine wpList_append_rd rfl (.tmp 13) (.tmp 18) 32 rfl (PB+1+1+1) 70 im zm 141 256 Tryz.underlying32 him.out hzm.out him1.out him2.out hzs.out (by decide) _ _ _ rfl (hown.out.alloc _) _ 1 ML rfl (Rd.new wr ML.toArray 70 1 141 1 (by rw [List.size_toArray,hM.out.n])) hM.out.one ?_ ?_ ?_ ?_);(· unfold maxLen;omega);(· omega);(· simp;omega);intro v3 w3 hown3 hgrow3;obtain⟨pa3,pc3,rfl⟩:=own_shape hown3;have hP3:=hPn.out.grown hgrow3 (fun e=>by have:=hge.out _ e;omega);have u0:=hP3.lt;obtain⟨u1,u2⟩:=hP3.cel.2 0 _ rfl)))
   have hne:∀ b,b<PB+1+1+1→(Value.slice pa jj pc).ownBlock≠some b:=fun b hb e=>by have:=hge.out _ e;omega
   have hne3:∀ b,b<PB+1+1+1→(Value.slice pa3 (jj+1) pc3).ownBlock≠some b:=fun b hb e=>by have:=own_ge hown3 _ e;omega
   have gS:=grown_setCell w3 ⟨PB+1,0,none⟩ (.slice pa3 (jj+1) pc3)
   have neS:∀ b,PB+1≠b→(some (PB+1):Option Nat)≠some b:=fun b hb e=>hb (by injection e)
   have e0:=hPB.out
   have r1:Gr w w3:=(hg.trans hgnh.out).grown hgrow3 (fun k hk=>by have:=hge.out _ hk;omega)
   have r2:=((hR.gr hgnh.out).grown hgrow3 (hne _ (by omega))).grown gS (neS _ (by omega))
   have r3:=hP3.set 0 (.slice pa3 (jj+1) pc3)
   have r4:=((hX.gr hgnh.out).grown hgrow3 (hne _ (by omega))).grown gS (neS _ (by omega))
   have r5:=World.ownsRow.kept hown3 gS (.inr (hne3 (PB+1) (by omega)))
   have hz1:=hgnh.out.size
   have hz2:=World.grownBy.size hgrow3
   rw [← hfl.out] at r5
   refine⟨⟨jj+1,.slice pa3 (jj+1) pc3,by omega,by go_num,r1.setCell (by show w.heap.size≤PB+1;omega) _,by simp;omega,r2,r3,r4,r5⟩,by simp [RowKit.intOf];omega⟩
  ·have q1:decide ((jj:Int)<3)=false:=decide_eq_false (by omega)
   obtain rfl:jj=3:=by omega
   clear q1 c1 hjj
   have e3:((3:Nat):Int)=3:=rfl
   rw [e3]
   clear e3
   obtain⟨MB,rfl⟩:∃ MB,pa=some ⟨MB,0,none⟩:=by
    rcases hown.2 with ⟨_,h⟩ | ⟨g,cap,cur,e,_⟩
    ·omega
    ·injection e with e1 e2 e3
     exact⟨g,e1⟩
   have hRd:=Rd.own hown
   have hge:=own_ge hown
   replace hown:=Lib.hid hown
   have p0:=hP.lt
   obtain⟨p1,p2⟩:=hP.cel.2 1 _ rfl
   have p3:=(hP.cel.2 0 _ rfl).1
   have t0:=hR.lt
   obtain⟨t1,t2⟩:=hR.cel.2 0 _ rfl
   obtain⟨t3,t4⟩:=hR.cel.2 1 _ rfl
   replace hRd:=Lib.hid hRd
   replace hge:=Lib.hid hge
   go_wp2_with (refine wpList_bs1g rfl 33 73 (.tmp 25) rfl 9 Tryz.underlying33 (by as_aux_lemma=>kernel_rfl) (by decide) (by decide) (seqC wr.heap.size) rfl rfl ?_)
   have e0:=hPB.out
   have hMw:MB<wr.heap.size:=TrR_lt hRd.out
   have hg3:Gr w (((wr.setCell ⟨PB+1,1,none⟩ (.slice (some ⟨wr.heap.size+1,0,none⟩) 1 1)).setCell ⟨PB,0,none⟩ (.slice (some ⟨MB,0,none⟩) 3 pc)).setCell ⟨PB,1,none⟩ (.slice (some ⟨wr.heap.size+1,0,none⟩) 1 1)):=((hg.setCell (by show w.heap.size≤PB+1;omega) _).setCell (by show w.heap.size≤PB;omega) _).setCell (by show w.heap.size≤PB;omega) _
   have hR1:=((hR.grown (grown_setCell wr ⟨PB+1,1,none⟩ (.slice (some ⟨wr.heap.size+1,0,none⟩) 1 1)) (fun e=>by injection e with e;simp at e)).set 0 (.slice (some ⟨MB,0,none⟩) 3 pc)).set 1 (.slice (some ⟨wr.heap.size+1,0,none⟩) 1 1)
   have hown2:=World.ownsRow.kept (World.ownsRow.kept (World.ownsRow.kept hown.out (grown_setCell wr ⟨PB+1,1,none⟩ (.slice (some ⟨wr.heap.size+1,0,none⟩) 1 1)) (.inr (fun e=>by have:=hge.out _ e;simp at this;omega))) (grown_setCell _ ⟨PB,0,none⟩ (.slice (some ⟨MB,0,none⟩) 3 pc)) (.inr (fun e=>by have:=hge.out _ e;simp at this;omega))) (grown_setCell _ ⟨PB,1,none⟩ (.slice (some ⟨wr.heap.size+1,0,none⟩) 1 1)) (.inr (fun e=>by have:=hge.out _ e;simp at this;omega))
   obtain⟨U,hU⟩:∃ U,((wr.setCell ⟨PB+1,1,none⟩ (.slice (some ⟨wr.heap.size+1,0,none⟩) 1 1)).setCell ⟨PB,0,none⟩ (.slice (some ⟨MB,0,none⟩) 3 pc)).setCell ⟨PB,1,none⟩ (.slice (some ⟨wr.heap.size+1,0,none⟩) 1 1)=U:=⟨_,rfl⟩
   have hUs:U.heap.size=wr.heap.size:=by rw [← hU];simp
   rw [hU] at hg3 hR1 hown2 ⊢
   have gA:=((Gr.refl U).alloc (.cells #[.slice ta tn tc] 28)).alloc (.cells (seqC wr.heap.size).toArray 73)
   have hT:=(blkE_at hUs [.slice ta tn tc] 28).gr ((Gr.refl _).alloc (.cells (seqC wr.heap.size).toArray 73))
   have hS:=blkE_at (w:=U.alloc (.cells #[.slice ta tn tc] 28)) (k:=wr.heap.size+1) (by simp [hUs]) (seqC wr.heap.size) 73
   have hRV:=hR1.gr gA
   have hRdV:=Rd.own (own_gr gA hown2)
   have hgV:=hg3.trans gA
   clear hU hUs gA hown2 hR1 hg3 hRd hown hge hR hP hX p0 p1 p2 p3 t0 t1 t2 t3 t4
   generalize (U.alloc (.cells #[.slice ta tn tc] 28)).alloc (.cells (seqC wr.heap.size).toArray 73)=V at *
   have t0:=hRV.lt
   have t1:=(hRV.cel.2 0 _ rfl).1
   have t3:=(hRV.cel.2 1 _ rfl).1
   simp [bodyPost,results,Tryz.results6,go_sem,t0,t1,t3]
   refine⟨MB,pc,_,rfl,hgV,_,TrR_lt hRdV,fun i hi=>medQ_ok _,fun i hi j u hu=>?_,hS,hT⟩
   obtain⟨_,a,c,e,h0 | ⟨b',o,e2,hb,hc⟩⟩:=hRdV
   ·omega
   ·rw [e2] at e
    injection e with e1
    injection e1 with e1
    injection e1 with e1 e3
    subst e1 e3
    have hj:j<141:=by
     have:=(List.getElem?_eq_some_iff.1 hu).1
     rwa [(medQ_ok (nmK i)).n] at this
    have:=hc (i * 141+j) u (by rw [medF_at 3 i j hi hj];exact hu)
    rwa [Nat.zero_add] at this
end Go.Proofs.YtnginfangeikpaaGreatDoor
