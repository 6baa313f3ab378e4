/-
  Contract of sort.Search at a closure that reads memory and lays blocks; the closure of (index).frame.
  Conditions: the closure's answers ascend.
-/
import Derived.Test.YtnginfangeikpaaGreatDoorShG
import Derived.Deep.LoopGhost
import Derived.Test.YtnginfangeikpaaGreatDoorMathSh
import Derived.Test.YtnginfangeikpaaGreatDoorShP
namespace Go.Proofs.YtnginfangeikpaaGreatDoor
open Go.RowKit Go.Lib
set_option linter.unusedSimpArgs false
set_option linter.unusedVariables false
set_option maxHeartbeats 4000000 in
set_option maxRecDepth 1000000 in
theorem search_any (g:Nat) (cb:Array Value) (n:Nat) (p:Nat→Bool) (w:World) (eg:∀ args w,(callFunc g args).run Tryz.prog w=.ok (.enter g args) w) (hsz:n<4611686018427387904)
  (hf:∀ (w':World) (i:Nat),Gr w w'→i<n→Calls Tryz.prog g (#[.int .i64 i] ++ cb) w' fun e w''=>e=.returned (.bool (p i))∧Gr w' w'')
  (hmono:∀ a b,a≤b→b<n→p a=true→p b=true) :
  Calls Tryz.prog 41 #[.int .i64 n,.func (.func g) #[] cb] w fun e w'=>∃ k:Nat,e=.returned (.int .i64 k)∧Gr w w'∧k≤n∧(∀ t,t<k→p t=false)∧(k<n→p k=true):=by
 have HF:Hid _:=Lib.hid hf
 have M:Hid _:=Lib.hid hmono
 clear hf hmono
 go_enter Tryz.func41,Tryz.ntmps41
 go_wp2
 go_loopg [5,6] n (fun kx s5 s6 wr=>∃ (lo hi:Nat),s5=.int .i64 lo∧s6=.int .i64 hi∧lo≤hi∧hi≤n∧hi - lo≤kx∧Gr w wr ∧
  Hid ((∀ t,t<lo→p t=false)∧(∀ t,hi≤t→t<n→p t=true)))
 case atStart=>exact⟨0,n,rfl,rfl,Nat.zero_le _,Nat.le_refl _,by omega,by first | exact (Gr.refl _).drew | exact Gr.refl _,Lib.hid ⟨fun t ht=>absurd ht (Nat.not_lt_zero _),fun t h1 h2=>by omega⟩⟩
 case round=>
  obtain⟨lo,hi,rfl,rfl,hlh,hin,hg,hgw,I⟩:=hrel
  by_cases hlt:lo<hi
  ·have hc:=fun w' h=>HF.out w' ((lo+hi) / 2) (hgw.trans h) (by omega)
   rw [show (((lo+hi) / 2:Nat):Int)=((lo:Int)+(hi:Int)) / 2 by omega] at hc
   replace hc:=Lib.hid hc
   cases hp:p ((lo+hi) / 2)
   ·simp only [hp] at hc
    have HP:Hid (p ((lo+hi) / 2)=false):=Lib.hid hp
    clear hp
    go_wp2_with (go_at_fn g;refine (hc.out _ (Gr.refl _)).mono ?_;rintro e w' ⟨rfl,hg2⟩)
    go_roundg (hi - ((lo+hi) / 2+1))
    case measure=>omega
    case rel=>
     have I2:Hid ((∀ t,t<(lo+hi) / 2+1→p t=false)∧(∀ t,hi≤t→t<n→p t=true)):=Lib.hid ⟨fun t ht=>(by
      cases h:p t with
      | false=>rfl
      | true=>have:=M.out t ((lo+hi) / 2) (by omega) (by omega) h;rw [HP.out] at this;cases this),I.out.2⟩
     exact⟨(lo+hi) / 2+1,hi,by rw [show ((lo:Int)+(hi:Int)) / 2+1=(((lo+hi) / 2+1:Nat):Int) by omega],rfl,by omega,hin,Nat.le_refl _,hgw.trans hg2,I2⟩
   ·simp only [hp] at hc
    have HP:Hid (p ((lo+hi) / 2)=true):=Lib.hid hp
    clear hp
    go_wp2_with (go_at_fn g;refine (hc.out _ (Gr.refl _)).mono ?_;rintro e w' ⟨rfl,hg2⟩)
    go_roundg ((lo+hi) / 2 - lo)
    case measure=>omega
    case rel=>
     have I2:Hid ((∀ t,t<lo→p t=false)∧(∀ t,(lo+hi) / 2≤t→t<n→p t=true)):=Lib.hid ⟨I.out.1,fun t ht htn=>M.out ((lo+hi) / 2) t ht htn HP.out⟩
     exact⟨lo,(lo+hi) / 2,rfl,by rw [show ((lo:Int)+(hi:Int)) / 2=(((lo+hi) / 2:Nat):Int) by omega],by omega,by omega,Nat.le_refl _,hgw.trans hg2,I2⟩
  ·obtain rfl:hi=lo:=by omega
   go_wp2
   go_ret
   exact⟨_,rfl,hgw,hin,I.out.1,fun h=>I.out.2 _ (Nat.le_refl _) h⟩
set_option maxRecDepth 20000 in
set_option maxHeartbeats 4000000 in
theorem less_any (bn bl eb eo N cap:Nat) (tv pv:Value) (es:List Int) (n:Int) (w:World) (i:Nat) (hi:i<N) (hN:N≤1000) (hn:w.cell? ⟨bn,0,none⟩=some (.int .i64 n)) (hnb:bn<w.heap.size) (hl:Blk w bl 103 [tv,.slice (some ⟨eb,eo,none⟩) N cap,pv])
  (heb:eb<w.heap.size) (hc:w.cell? ⟨eb,eo+i,none⟩=some (.int .i64 (es.getD i 0))) :
  Calls Tryz.prog 42 (#[.int .i64 i] ++ #[.pointer (some ⟨bn,0,none⟩),.pointer (some ⟨bl,0,none⟩)]) w fun e w'=>e=.returned (.bool (decide (n<es.getD i 0)))∧Gr w w':=by
 generalize es.getD i 0=E at *
 have z0:=hl.lt
 have z1:=(hl.cel.2 1 _ rfl).1
 go_enter Tryz.func42,Tryz.ntmps42
 go_upto_region 1 with fail
 refine wp_region_gr (by as_aux_lemma=>kernel_rfl) (by as_aux_lemma=>kernel_rfl) (fun hq1 hq2=>?_)
 repeat (first | go_big_quiet_skip | (go_big_quiet_want;go_big_quiet_op;first | go_big_quiet_on | (apply Exists.intro;refine⟨fun _=>?_,?_⟩;(· (fail));go_big_quiet_on)))
 refine wpQuiet_nil ?_
 clear hq1 hq2
 rintro w1 ⟨⟨_,hg1⟩,rfl⟩
 obtain⟨hc1,hf1⟩:=hg1.cells
 have hz1:=hg1.size
 (try simp at hz1);(try have hl1_0_0:w.heap.size<w1.heap.size:=by omega);(try have hm1_0_0:w.heap.size≤w1.heap.size:=by omega);(try have hl1_0_1:w.heap.size+1<w1.heap.size:=by omega);(try have hl1_0_2:w.heap.size+2<w1.heap.size:=by omega)
 go_wp2
 go_ret
 exact⟨rfl,hg1⟩
end Go.Proofs.YtnginfangeikpaaGreatDoor

namespace Go.Proofs.YtnginfangeikpaaGreatDoor
open Go.RowKit
set_option linter.unusedVariables false
set_option linter.unusedSimpArgs false
def endsC:Int→List Cl→List Int
 | _,[]=>[]
 | e,c :: l=>(e+c.len) :: endsC (e+c.len) l
theorem endsC_len:∀ (e:Int) (l:List Cl),(endsC e l).length=l.length
 | _,[]=>rfl
 | e,c :: l=>by show (endsC (e+c.len) l).length+1=l.length+1;rw [endsC_len]
theorem endsC_snoc:∀ (e:Int) (l:List Cl) (c:Cl),endsC e (l ++ [c])=endsC e l ++ [e+tot l+c.len]
 | e,[],c=>by show [e+c.len]=[e+tot []+c.len];rw [show tot []=0 from rfl,Int.add_zero]
 | e,d :: l,c=>by
  show (e+d.len) :: endsC (e+d.len) (l ++ [c])=(e+d.len) :: (endsC (e+d.len) l ++ [e+tot (d :: l)+c.len])
  rw [endsC_snoc,show tot (d :: l)=d.len+tot l from rfl]
  congr 3
  omega
theorem endsC_bound:∀ (e:Int) (l:List Cl) (k:Nat),(∀ c∈l,0≤c.len)→k<l.length→e≤(endsC e l).getD k 0∧(endsC e l).getD k 0≤e+tot l
 | e,[],k,_,hk=>absurd hk (Nat.not_lt_zero _)
 | e,c :: l,0,h,_=>by
  have h1:=h c (List.mem_cons_self ..)
  have h2:=tot_pos (a:=l) (fun d hd=>h d (List.mem_cons_of_mem _ hd))
  have ht:tot (c :: l)=c.len+tot l:=rfl
  have hd:(endsC e (c :: l)).getD 0 0=e+c.len:=rfl
  omega
 | e,c :: l,k+1,h,hk=>by
  have h1:=h c (List.mem_cons_self ..)
  have ih:=endsC_bound (e+c.len) l k (fun d hd=>h d (List.mem_cons_of_mem _ hd)) (by simpa using hk)
  have ht:tot (c :: l)=c.len+tot l:=rfl
  have hd:(endsC e (c :: l)).getD (k+1) 0=(endsC (e+c.len) l).getD k 0:=rfl
  omega
theorem endsC_mono:∀ (e:Int) (l:List Cl) (a b:Nat),(∀ c∈l,0≤c.len)→a≤b→b<l.length→(endsC e l).getD a 0≤(endsC e l).getD b 0
 | e,[],a,b,_,_,hb=>absurd hb (Nat.not_lt_zero _)
 | e,c :: l,0,b,h,_,hb=>by
  rcases b with _ | b
  ·exact Int.le_refl _
  ·exact (endsC_bound (e+c.len) l b (fun d hd=>h d (List.mem_cons_of_mem _ hd)) (by simpa using hb)).1
 | e,c :: l,a+1,b,h,hab,hb=>by
  rcases b with _ | b
  ·omega
  ·exact endsC_mono (e+c.len) l a b (fun d hd=>h d (List.mem_cons_of_mem _ hd)) (by omega) (by simpa using hb)
theorem len_tot:∀ (l:List Cl) (k:Nat),(∀ c∈l,0≤c.len)→(hk:k<l.length)→l[k].len≤tot l
 | [],k,_,hk=>absurd hk (Nat.not_lt_zero _)
 | c :: l,0,h,_=>by
  have h2:=tot_pos (a:=l) (fun d hd=>h d (List.mem_cons_of_mem _ hd))
  have ht:tot (c :: l)=c.len+tot l:=rfl
  show c.len≤_
  omega
 | c :: l,k+1,h,hk=>by
  have h1:=h c (List.mem_cons_self ..)
  have ih:=len_tot l k (fun d hd=>h d (List.mem_cons_of_mem _ hd)) (by simpa using hk)
  have ht:tot (c :: l)=c.len+tot l:=rfl
  have hk2:k<l.length:=by simpa using hk
  show l[k].len≤_
  omega
theorem shC_at:∀ (l:List Cl) (e n:Int) (k:Nat),e≤n→(∀ t,t<k→(endsC e l).getD t 0≤n)→k≤l.length→(k<l.length→n<(endsC e l).getD k 0) →
  (∀ (h:k<l.length),shC l (n - e)=clX l[k] (n - ((endsC e l).getD k 0 - l[k].len))∧0≤n - ((endsC e l).getD k 0 - l[k].len)∧n - ((endsC e l).getD k 0 - l[k].len)<l[k].len)∧(k=l.length→shC l (n - e)=.lf .blk)
 | [],e,n,k,_,_,hk,_=>⟨fun h=>absurd h (Nat.not_lt_zero _),fun _=>rfl⟩
 | c :: l,e,n,0,he,_,_,hn=>by
  refine⟨fun h=>?_,fun h=>by simp at h⟩
  have hn:=hn h
  have hd:(endsC e (c :: l)).getD 0 0=e+c.len:=rfl
  rw [hd] at hn ⊢
  have hc:(c :: l)[0]=c:=rfl
  rw [hc]
  refine⟨?_,by omega,by omega⟩
  show (if n - e<c.len then clX c (n - e) else _)=_
  rw [if_pos (by omega)]
  congr 1
  omega
 | c :: l,e,n,k+1,he,ht,hk,hn=>by
  have h0:=ht 0 (by omega)
  have hd:(endsC e (c :: l)).getD 0 0=e+c.len:=rfl
  rw [hd] at h0
  obtain⟨i1,i2⟩:=shC_at l (e+c.len) n k h0 (fun t h=>ht (t+1) (by omega)) (by simpa using hk) (fun h=>hn (by simpa using h))
  have hs:shC (c :: l) (n - e)=shC l (n - (e+c.len)):=by
   show (if n - e<c.len then clX c (n - e) else shC l (n - e - c.len))=_
   rw [if_neg (by omega)]
   congr 1
   omega
  refine⟨fun h=>?_,fun h=>by rw [hs];exact i2 (by simpa using h)⟩
  obtain⟨j1,j2,j3⟩:=i1 (by simpa using h)
  have hd2:(endsC e (c :: l)).getD (k+1) 0=(endsC (e+c.len) l).getD k 0:=rfl
  have hc2:(c :: l)[k+1]=l[k]'(by simpa using h):=rfl
  rw [hd2,hc2,hs]
  exact⟨j1,j2,j3⟩
def plcOf (s:Sr):List Value:=plcC s.nm s.an
theorem plcOf_pl (r:ByteArray) (i:Int):plcOf (plS r i)=plcC r i:=by
 unfold plS
 by_cases h:r.size=0
 ·rw [if_pos h]
  unfold plcOf plcC
  rw [if_pos h,if_pos (by rfl)]
 ·rw [if_neg h]
  rfl
def plsC (l:List Cl):List Value:=l.flatMap fun c=>plcOf c.a ++ plcOf c.b
theorem plcOf_len (s:Sr):(plcOf s).length=10:=plcC_len _ _
theorem plsC_at:∀ (l:List Cl) (i:Nat) (hi:i<l.length) (j:Nat),j<20→(plsC l)[i * 20+j]?=(plcOf l[i].a ++ plcOf l[i].b)[j]?
 | [],i,hi,j,hj=>absurd hi (Nat.not_lt_zero _)
 | c :: l,0,hi,j,hj=>by
  rw [show plsC (c :: l)=(plcOf c.a ++ plcOf c.b) ++ plsC l from rfl,List.getElem?_append_left (by rw [List.length_append,plcOf_len,plcOf_len];omega)]
  simp
 | c :: l,i+1,hi,j,hj=>by
  rw [show plsC (c :: l)=(plcOf c.a ++ plcOf c.b) ++ plsC l from rfl,List.getElem?_append_right (by rw [List.length_append,plcOf_len,plcOf_len];omega),List.length_append,plcOf_len,plcOf_len]
  rw [show (i+1) * 20+j - (10+10)=i * 20+j by omega]
  exact plsC_at l i (by simpa using hi) j hj
end Go.Proofs.YtnginfangeikpaaGreatDoor

namespace Go.Proofs.YtnginfangeikpaaGreatDoor
open Go.RowKit Go.Lib
set_option linter.unusedSimpArgs false
set_option linter.unusedVariables false
theorem zeroLay (w:World):(zeroValue 99).run Tryz.prog w=.ok (.slice none 0 0) w:=by
 simp [zeroValue,go_sem]
 rfl
set_option maxRecDepth 20000 in
set_option maxHeartbeats 8000000 in
theorem frame_core (k kc kq:Nat) (hk8:8=k) (hkc:22=kc) (hkq:20=kq) (b1 b2 lb N:Nat) (name:ByteArray) (n:Int) (nm:Nat) (D:DataW Value) (ts:List CM) (ac ae ap:Option Addr) (cc ce cp:Nat) (w:World)
  (hN:ts.length=N) (hN64:N≤64) (hM:MapO w b2 nm D) (hns:name.size≤1000000) (hat:D.atKey (.string name.data.toList) (.held (.slice none 0 0))=.held (.slice (some ⟨lb,0,none⟩) 1 1))
  (hLb:Blk w lb 103 [.slice ac N cc,.slice ae N ce,.slice ap N cp])
  (hT:TrR w (.slice ac N cc) ts) (hE:Rd w (.slice ae N ce) N 1 ((endsC 0 (ts.map CM.c)).map (Value.int .i64))) (hP:Rd w (.slice ap N cp) N 20 (plsC (ts.map CM.c)))
  (hn:0≤n∧n≤2147483647) (hlen:∀ c∈ts.map CM.c,0≤c.len) (htot:tot (ts.map CM.c)≤2147483647)
  (HC:Hid (∀ (w':World) (i:Nat) (hi:i<ts.length) (q:Int),Gr w w'→0≤q→q<ts[i].c.len→ts[i].c.kind≠0→Calls Tryz.prog 43 #[.agg #[.map (some b1),.map (some b2)],ts[i].val,.agg (plcOf ts[i].c.a ++ plcOf ts[i].c.b).toArray,.int .i64 q] w' fun e w''=>∃ cs,e=.returned (.agg cs.toArray)∧Gr w' w''∧ExF w'.heap.size w'' cs (clX ts[i].c q))) :
  Calls Tryz.prog 21 #[.agg #[.map (some b1),.map (some b2)],.string name,.int .i64 n] w fun e w'=>∃ cs,e=.returned (.agg cs.toArray)∧Gr w w'∧ExF w.heap.size w' cs (shC (ts.map CM.c) n):=by
 have aE:∀ w,(isAgg 41).run Tryz.prog w=.ok true w:=Tryz.isAgg41
 have zE:∀ w,(Go.sizeOf 41).run Tryz.prog w=.ok k w:=fun w=>by rw [← hk8];exact Tryz.sizeOf41 w
 have aC:∀ w,(isAgg 61).run Tryz.prog w=.ok true w:=Tryz.isAgg61
 have zC:∀ w,(Go.sizeOf 61).run Tryz.prog w=.ok kc w:=fun w=>by rw [← hkc];exact Tryz.sizeOf61 w
 have aQ:∀ w,(isAgg 110).run Tryz.prog w=.ok true w:=Tryz.isAgg110
 have zQ:∀ w,(Go.sizeOf 110).run Tryz.prog w=.ok kq w:=fun w=>by rw [← hkq];exact Tryz.sizeOf110 w
 have eg:∀ args w,(callFunc 42 args).run Tryz.prog w=.ok (.enter 42 args) w:=enters_of Tryz.func42 (by as_aux_lemma=>kernel_rfl) rfl
 have hI:=((Blk.new w [.map (some b1),.map (some b2)] 79).gr ((Gr.refl _).alloc (.cells #[.int .i64 n] 2))).gr ((Gr.refl _).alloc (.cells zeroEx.toArray 41))
 have hO:=(blkE_at (w:=w.alloc (.cells #[.map (some b1),.map (some b2)] 79)) (k:=w.heap.size+1) (by simp) [.int .i64 n] 2).gr ((Gr.refl _).alloc (.cells zeroEx.toArray 41))
 have hR:=blkE_at (w:=(w.alloc (.cells #[.map (some b1),.map (some b2)] 79)).alloc (.cells #[.int .i64 n] 2)) (k:=w.heap.size+1+1) (by simp) zeroEx 41
 have hg0:Gr w (((w.alloc (.cells #[.map (some b1),.map (some b2)] 79)).alloc (.cells #[.int .i64 n] 2)).alloc (.cells zeroEx.toArray 41)):=(((Gr.refl w).alloc _).alloc _).alloc _
 replace hk8:=Lib.hid hk8
 replace hkc:=Lib.hid hkc
 replace hkq:=Lib.hid hkq
 unfold zeroEx at hI hO hR hg0
 have q0:decide (n<0)=false:=decide_eq_false (by omega)
 go_enter Tryz.func21,Tryz.ntmps21
 go_upto_region 3 with fail
 generalize ((w.alloc (.cells #[.map (some b1),.map (some b2)] 79)).alloc (.cells #[.int .i64 n] 2)).alloc (.cells #[.int .i64 0,.string ⟨#[]⟩,.int .i64 0,.int .i64 0,.int .i64 0,.int .i64 0,.string ⟨#[]⟩,.slice none 0 0] 41)=W at *
 have hlk:=MapO.look (hM.gr hg0) Tryz.underlying77 (zeroLay _) (by unfold maxLen;omega) hat
 have z0:=hI.lt
 have z1:=(hI.cel.2 1 _ rfl).1
 go_wp2
 clear z0 z1 hlk
 go_loopw [8] (fun i wr=>(i=.int .i64 0∧W=wr)∨(i=.int .i64 (-1)∧Gr W wr∧Hid (shC (ts.map CM.c) n=.lf .blk))) (fun i _=>(RowKit.intOf i+1).toNat)
 case atStart=>exact .inl ⟨rfl,rfl⟩
 case round=>
  rcases hrel with ⟨rfl,rfl⟩ | ⟨rfl,hgr,hsh⟩
  ·have hLW:=hLb.gr hg0
   have z0:=hLW.lt
   have z1:=(hLW.cel.2 0 _ rfl).1
   have z2:=(hLW.cel.2 1 _ rfl).1
   have z3:=(hLW.cel.2 2 _ rfl).1
   go_upto_region 8 with fail
   clear z0 z1 z2 z3
   have hY:=Blk.new W [.slice ac N cc,.slice ae N ce,.slice ap N cp] 103
   have gA:=(Gr.refl W).alloc (.cells #[.slice ac N cc,.slice ae N ce,.slice ap N cp] 103)
   have hXs:w.heap.size+1+1+1≤W.heap.size:=by have:=hR.lt;omega
   have hI1:=hI.gr gA
   have hO1:=hO.gr gA
   have hR1:=hR.gr gA
   have hg1:=hg0.trans gA
   generalize W.alloc (.cells #[.slice ac N cc,.slice ae N ce,.slice ap N cp] 103)=Wl at *
   have hXl:W.heap.size<Wl.heap.size:=hY.lt
   have gAs:=gA
   generalize hXe:W.heap.size=X at *
   have hEl:(endsC 0 (ts.map CM.c)).length=N:=by rw [endsC_len,List.length_map,hN]
   have HS:=search_any 42 #[.pointer (some ⟨w.heap.size+1,0,none⟩),.pointer (some ⟨X,0,none⟩)] N (fun i=>decide (n<(endsC 0 (ts.map CM.c)).getD i 0)) Wl eg (by omega) (fun w' i hg hi=>by
     obtain⟨eb,eo,cap,he,heb,hce⟩:=(hE.gr (hg1.trans hg)).addr (by omega)
     injection he with e1 e2 e3
     subst e1
     have hO2:=hO1.gr hg
     exact less_any (w.heap.size+1) X eb eo N ce (.slice ac N cc) (.slice ap N cp) (endsC 0 (ts.map CM.c)) n w' i hi (by omega) (by simpa using (hO2.cel.2 0 _ rfl).1) hO2.lt (hY.gr hg) heb (hce i _ (by rw [List.getElem?_map,List.getElem?_eq_getElem (by omega)];simp [List.getD,List.getElem?_eq_getElem (show i<(endsC 0 (ts.map CM.c)).length by omega)]))) (fun a b hab hb h=>by
     have:=endsC_mono 0 (ts.map CM.c) a b hlen hab (by rw [List.length_map,hN];omega)
     rw [decide_eq_true_eq] at h ⊢
     omega)
   replace HS:=Lib.hid HS
   have y0:=hY.lt
   have y1:=(hY.cel.2 1 _ rfl).1
   go_upto_region 9 with (go_at_call 41;(with_reducible refine (HS.out).mono ?_);rintro e w3 ⟨kk,rfl,hg3,hk1,hk2,hk3⟩)
   clear y0 y1 HS hXl gAs
   have hY3:=hY.gr hg3
   have hI3:=hI1.gr hg3
   have hO3:=hO1.gr hg3
   have hR3:=hR1.gr hg3
   have hgT:=hg1.trans hg3
   have hgL:=gA.trans hg3
   have hT3:=hT.gr hgT
   have hE3:=hE.gr hgT
   have hP3:=hP.gr hgT
   obtain⟨sA,sB⟩:=shC_at (ts.map CM.c) 0 n kk hn.1 (fun t h=>by have:=hk2 t h;rw [decide_eq_false_iff_not] at this;omega) (by rw [List.length_map,hN];exact hk1) (fun h=>of_decide_eq_true (hk3 (by rwa [List.length_map,hN] at h)))
   rw [Int.sub_zero] at sA sB
   clear hY hI1 hO1 hR1 hg1 hg3 gA hR hI hO hk2 hk3 hT hE hP hLb hLW hM hat
   have y0:=hY3.lt
   have y1:=(hY3.cel.2 1 _ rfl).1
   have y2:=(hY3.cel.2 0 _ rfl).1
   by_cases hkN:kk<N
   ·have q1:decide ((kk:Int)<(N:Int))=true:=decide_eq_true (by omega)
    have hkt:kk<ts.length:=by omega
    obtain⟨eb,eo,cap,he,heb,hce⟩:=hE3.addr (by omega)
    injection he with e1 e2 e3
    subst e1
    obtain⟨pb,po,cap2,he,hpb,hcp⟩:=hP3.addr (by omega)
    injection he with e4 e5 e6
    subst e4
    obtain⟨a',cap3,he,h0 | ⟨cb,co,e7,hcb,hcc⟩⟩:=hT3.shape
    ·omega
    injection he with e8 e9 e10
    subst e8 e7
    have hcell:=hcc kk hkt
    have hb1:=endsC_bound 0 (ts.map CM.c) kk hlen (by rw [List.length_map];exact hkt)
    obtain⟨j1,j2,j3⟩:=sA (by rw [List.length_map];exact hkt)
    rw [List.getElem_map] at j1 j2 j3
    have hC1:=fun w' q=>HC.out w' kk hkt q
    have hpl:∀ j u,(plcOf ts[kk].c.a ++ plcOf ts[kk].c.b)[j]?=some u→w3.cell? ⟨pb,po+kk * 20+j,none⟩=some u:=fun j u hu=>by
     have hj:=(List.getElem?_eq_some_iff.1 hu).1
     rw [List.length_append,plcOf_len,plcOf_len] at hj
     have:=hcp (kk * 20+j) u (by rw [plsC_at (ts.map CM.c) kk (by rw [List.length_map];exact hkt) j (by omega),List.getElem_map];exact hu)
     rwa [← Nat.add_assoc] at this
    have hee:w3.cell? ⟨eb,eo+kk,none⟩=some (.int .i64 ((endsC 0 (ts.map CM.c)).getD kk 0)):=hce kk _ (by rw [List.getElem?_map,List.getElem?_eq_getElem (by omega)];simp [List.getD,List.getElem?_eq_getElem (show kk<(endsC 0 (ts.map CM.c)).length by omega)])
    have hlt:ts[kk].c.len≤2147483647:=by
     have:=len_tot (ts.map CM.c) kk hlen (by rw [List.length_map];exact hkt)
     rw [List.getElem_map] at this
     omega
    replace j1:=Lib.hid j1
    clear e2 e3 e5 e6 e9 e10 sA sB hce hcp hcc hT3 hE3 hP3
    generalize ts[kk]=m at *
    generalize (endsC 0 (ts.map CM.c)).getD kk 0=En at *
    have y3:w3.cell? ⟨cb,co+kk * kc+1,none⟩=some (.int .i64 m.c.kind):=by rw [← hkc.out];exact hcell 1 _ rfl
    have y4:w3.cell? ⟨cb,co+kk * kc,none⟩=some (.int .i64 m.c.len):=by rw [← hkc.out];exact hcell 0 _ rfl
    by_cases hkd:m.c.kind=0
    ·have q2:(m.c.kind == 0)=true:=by rw [hkd];rfl
     have hbl:Hid (shC (ts.map CM.c) n=.lf .blk):=Lib.hid (by rw [j1.out];unfold clX;rw [if_pos hkd])
     go_wp2
     go_roundw
     case rel=>exact .inr ⟨rfl,hgL,hbl⟩
     case measure=>simp [RowKit.intOf]
    ·have q2:(m.c.kind == 0)=false:=by simp [hkd]
     go_upto_region 10 with fail
     obtain⟨lc,hlc⟩:∃ l,m.cells=l:=⟨_,rfl⟩
     obtain⟨lp,hlp⟩:∃ l,plcOf m.c.a ++ plcOf m.c.b=l:=⟨_,rfl⟩
     have la:∀ w',Gr w3 w'→Sem.run Tryz.prog (loadCellsFrom ⟨cb,co+kk * kc,none⟩ 0 kc #[]) w'=.ok lc.toArray w':=fun w' hg=>by
      rw [← hkc.out]
      exact ld_row (by rw [← hlc];rfl) fun j u hu=>(hg.cells.1 cb _ hcb).trans (hcell j u (by rw [hlc];exact hu))
     have lq:∀ w',Gr w3 w'→Sem.run Tryz.prog (loadCellsFrom ⟨pb,po+kk * kq,none⟩ 0 kq #[]) w'=.ok lp.toArray w':=fun w' hg=>by
      rw [← hkq.out]
      exact ld_row (by rw [← hlp,List.length_append,plcOf_len,plcOf_len]) fun j u hu=>(hg.cells.1 pb _ hpb).trans (hpl j u (by rw [hlp];exact hu))
     have HCk:Hid (∀ w',Gr w3 w'→Calls Tryz.prog 43 #[.agg #[.map (some b1),.map (some b2)],.agg lc.toArray,.agg lp.toArray,.int .i64 (n - (En - m.c.len))] w' fun e w''=>∃ cs,e=.returned (.agg cs.toArray)∧Gr w' w''∧ExF w'.heap.size w'' cs (clX m.c (n - (En - m.c.len)))):=Lib.hid fun w' hg=>by
      have:=hC1 w' (n - (En - m.c.len)) (hgT.trans hg) j2 j3 hkd
      unfold CM.val at this
      rwa [hlc,hlp] at this
     rw [← j1.out] at HCk
     have z0:=hI3.lt
     have z1:=(hI3.cel.2 0 _ rfl).1
     have z2:=(hI3.cel.2 1 _ rfl).1
     have x0:=hO3.lt
     have x1:=(hO3.cel.2 0 _ rfl).1
     have y5:=(hY3.cel.2 2 _ rfl).1
     clear hcell hpl hC1 HC
     refine wp_region_gr_tail 25 (by as_aux_lemma=>kernel_rfl) (by as_aux_lemma=>kernel_rfl) (fun hq1 hq2=>?_)
     simp only [List.take_succ_cons,List.take_zero,List.drop_succ_cons,List.drop_zero]
     repeat (first | go_big_quiet_skip | (go_big_quiet_want;go_big_quiet_op;first | go_big_quiet_on | (apply Exists.intro;refine⟨fun _=>?_,?_⟩;(· (first | (rw [la _ (GW.h _)];exact⟨rfl,rfl⟩) | (rw [lq _ (GW.h _)];exact⟨rfl,rfl⟩)));go_big_quiet_on)))
     refine wpQuiet_nil ?_
     clear hq1 hq2
     rintro w4 ⟨⟨_,hg4⟩,rfl⟩
     obtain⟨hc4,hf4⟩:=hg4.cells
     have hz4:=hg4.size
     (try simp at hz4);(try have hl4_0_0:w.heap.size<w4.heap.size:=by omega);(try have hm4_0_0:w.heap.size≤w4.heap.size:=by omega);(try have hl4_0_1:w.heap.size+1<w4.heap.size:=by omega);(try have hl4_0_2:w.heap.size+2<w4.heap.size:=by omega);(try have hl4_1_0:w1.heap.size<w4.heap.size:=by omega);(try have hm4_1_0:w1.heap.size≤w4.heap.size:=by omega);(try have hl4_1_1:w1.heap.size+1<w4.heap.size:=by omega);(try have hl4_1_2:w1.heap.size+2<w4.heap.size:=by omega);(try have hl4_2_0:w2.heap.size<w4.heap.size:=by omega);(try have hm4_2_0:w2.heap.size≤w4.heap.size:=by omega);(try have hl4_2_1:w2.heap.size+1<w4.heap.size:=by omega);(try have hl4_2_2:w2.heap.size+2<w4.heap.size:=by omega);(try have hl4_3_0:w3.heap.size<w4.heap.size:=by omega);(try have hm4_3_0:w3.heap.size≤w4.heap.size:=by omega);(try have hl4_3_1:w3.heap.size+1<w4.heap.size:=by omega);(try have hl4_3_2:w3.heap.size+2<w4.heap.size:=by omega)
     have hR4:=hR3.gr hg4
     have hg04:=hgT.trans hg4
     have hs4:=hg04.size
     have hlt4:=hR4.lt
     go_wp2_with (go_at_call 43;(with_reducible refine (HCk.out _ hg4).mono ?_);rintro e w5 ⟨rs,rfl,hg5,hx5⟩;have hR5:=hR4.gr hg5;have hrk:rs.length=k:=(by rw [hx5.r.len,hk8.out]);have st:=stB hR5 hx5.r.len hx5.r.one)
     have hb5:=blk_set hR5 rs
     have ld5:=ldB hrk hb5
     have hx6:=(hx5.setRow (k:=w.heap.size+1+1) (by omega) rs.toArray).less (b2:=w.heap.size) (by omega)
     have hg6:=gr_setRow (hg04.trans hg5) (g:=w.heap.size+1+1) (by omega) rs.toArray
     simp [bodyPost,results,Tryz.results21,go_sem,aE,zE,ld5]
     exact⟨hg6,hx6⟩
   ·have q1:decide ((kk:Int)<(N:Int))=false:=decide_eq_false (by omega)
    have hbl:=Lib.hid (sB (by rw [List.length_map];omega))
    go_wp2
    go_roundw
    case rel=>exact .inr ⟨rfl,hgL,hbl⟩
    case measure=>simp [RowKit.intOf]
  ·have hR1:=hR.gr hgr
   obtain⟨L,hL⟩:∃ L,zeroEx=L:=⟨_,rfl⟩
   have hL8:L.length=8:=by rw [← hL];rfl
   have hLo:∀ v∈L,v.oneCell'=true:=by rw [← hL];exact exC_one _ _ _ _ _ _ _ _ _ _
   have hLk:L.length=k:=by rw [hL8,hk8.out]
   have hxL:∀ w',ExF w.heap.size w' L (.lf .blk):=fun w'=>by rw [← hL];exact⟨nilE,rfl,rfl⟩
   replace hL:=Lib.hid hL
   have st:=stB hR1 (l:=L) (by rw [hL8];rfl) hLo
   have hlt:=hR1.lt
   have hb2:=blk_set hR1 L
   have ld2:=ldB hLk hb2
   have hg2:=gr_setRow (hg0.trans hgr) (g:=w.heap.size+1+1) (by omega) L.toArray
   replace hL8:=Lib.hid hL8
   clear hR1 hb2 hR hI hO
   go_wp2_with (refine wpList_buildTo rfl 41 #[] rfl (some 74) rfl L.toArray (by rw [← hL.out];kernel_rfl) ?_)
   simp [bodyPost,results,Tryz.results21,go_sem,aE,zE,ld2]
   rw [hsh.out]
   exact⟨hg2,hxL _⟩
end Go.Proofs.YtnginfangeikpaaGreatDoor
