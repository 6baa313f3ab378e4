/-
  Walk of the law EdlShows, over its callees' contracts.
  Conditions: the numbers lie in memory.
-/
import Derived.Test.YtnginfangeikpaaGreatDoorSiK
import Derived.Test.YtnginfangeikpaaGreatDoorShL
import Derived.Test.YtnginfangeikpaaGreatDoorWalkEx
import Derived.Deep.DeepCutAuto
namespace Go.Proofs.YtnginfangeikpaaGreatDoor
open Go.RowKit Go.Lib
set_option linter.unusedSimpArgs false
set_option linter.unusedVariables false
structure ShSc (l:El) (LB QB MB mc SB TB:Nat) (ea:Option Addr) (ec:Nat) (tv:Value) (ts:List CM) (W:World):Prop where
 lst:Blk W LB 25 [.string l.title,.int .i64 l.base,.bool l.drop,.slice ea l.evs.length ec]
 evs:EvsR W (.slice ea l.evs.length ec) l.evs
 prj:Blk W QB 35 [.slice (some ⟨MB,0,none⟩) 3 mc,.slice (some ⟨SB,0,none⟩) 1 1]
 pr:PrjR W MB (fun i=>medQ (nmK i)) SB TB tv
 tr:TrR W tv ts
theorem ShSc.gr {l:El} {LB QB MB mc SB TB:Nat} {ea:Option Addr} {ec:Nat} {tv:Value} {ts:List CM} {W w:World} (hg:Gr W w) (h:ShSc l LB QB MB mc SB TB ea ec tv ts W):ShSc l LB QB MB mc SB TB ea ec tv ts w:=
 ⟨h.lst.gr hg,h.evs.gr hg,h.prj.gr hg,h.pr.gr hg,h.tr.gr hg⟩
theorem exF_blk {b:Nat} {w:World} {cs:List Value} (h:ExF b w cs (.lf .blk)):cs[0]?=some (.int .i64 0):=by
 obtain⟨av,_,rfl⟩:=h
 rfl
theorem take_last {es:List Ev} {j:Nat} (h0:0<j) (hj:j<es.length):(es.take j).getLast?=some (es[j - 1]'(by omega)):=by
 rw [List.getLast?_eq_getElem?,List.length_take,Nat.min_eq_left (by omega),List.getElem?_take,if_pos (by omega),List.getElem?_eq_getElem (by omega)]
theorem befL_at {es:List Ev} {j:Nat} (hj:j<es.length) (e:Ev) (k:Int):befL (es.take j) e k=if h:0<j then (if (es[j - 1]'(by omega)).t=e.f then stL (es[j - 1]'(by omega)).reel ((es[j - 1]'(by omega)).o+k) else .blk) else .blk:=by
 unfold befL
 by_cases h:0<j
 ·rw [take_last h hj,dif_pos h]
 ·rw [dif_neg h]
  obtain rfl:j=0:=by omega
  rfl
theorem evs_split {es:List Ev} {j:Nat} (hj:j<es.length):es=es.take j ++ es[j] :: es.drop (j+1):=by
 rw [← List.drop_eq_getElem_cons hj,List.take_append_drop]
theorem endE_step {es:List Ev} {j:Nat} (hj:j<es.length):endE 0 (es.take (j+1))=es[j].t:=by
 rw [← List.take_append_getElem hj,endE_snoc]
theorem made_ve {l:El} (h:MadeE l) {j:Nat} (hj:j<l.evs.length):VE l.evs[j] (endE 0 (l.evs.take j)) 30000:=by
 have hv:=h.v
 rw [evs_split hj] at hv
 exact (vEvs_cons.1 (vEvs_mid hv).2).1
theorem made_on {l:El} (h:MadeE l) {x:Ev} (hx:x∈l.evs):0≤x.o:=by
 obtain⟨i,hi,rfl⟩:=List.mem_iff_getElem.1 hx
 have hv:=h.v
 rw [evs_split hi] at hv
 exact ((made_ve h hi).bounds ((endE_ge (vEvs_mid hv).1).1)).2.1
theorem EvsR.at8 {W:World} {eb eo ec:Nat} {es:List Ev} (h:EvsR W (.slice (some ⟨eb,eo,none⟩) es.length ec) es) {i:Nat} (hi:i<es.length):eb<W.heap.size∧∀ (j:Nat) (u:Value),es[i].cells[j]?=some u→W.cell? ⟨eb,eo+i * 8+j,none⟩=some u:=by
 obtain⟨a,cap,e,h0 | ⟨b,o,e2,hb,hc⟩⟩:=h.shape
 ·omega
 ·rw [e2] at e
  injection e with e1
  injection e1 with e1
  injection e1 with e1 e3
  subst e1 e3
  exact⟨hb,fun j u hu=>hc i hi j u hu⟩
theorem made_reel {l:El} (h:MadeE l) {e:Ev} (he:e∈l.evs) {n:Int} (hn:0≤n∧n≤2147483646):LfV (stL e.reel n):=by
 unfold stL
 by_cases hs:e.reel.size=0
 ·rw [if_pos hs]
  exact vfields_blk
 ·rw [if_neg hs]
  rcases (h.o e he).2 with h2 | h2
  ·exact absurd h2 hs
  ·obtain⟨q,hq,e2⟩:=reel_nmK h2
   rw [e2]
   exact fun w=>vfields_src (nmK q) n w (Lib.hid fun w'=>name_k q w') hn
theorem ve_day {e:Ev} {n d1 d2:Int} (h:VE e n d1) (hd:d1≤d2):VE e n d2:=
 ⟨h.kd,h.l,h.ft,by have:=h.d;omega,h.fr,by rcases h.rl with q | ⟨q1,q2,q3,q4,q5,q6⟩;exact .inl q;exact .inr ⟨q1,q2,q3,by omega,q5,by omega⟩⟩
theorem vEvs_day {d1 d2:Int} (hd:d1≤d2):∀ {l:List Ev} {n:Int},vEvs d1 n l=true→vEvs d2 n l=true
 | [],_,_=>rfl
 | e :: l,n,h=>by
  obtain⟨h1,h2⟩:=vEvs_cons.1 h
  exact vEvs_cons.2 ⟨ve_day h1 hd,vEvs_day hd h2⟩
theorem made_vel {l:El} (h:MadeE l):vEl l=true:=by
 have ho:C19.okB l.base l.drop=true:=by
  have hb:=h.b
  have hd:=h.d
  unfold isBs at hb
  cases hq:l.drop with
  | false=>rcases hb with e | e | e | e <;> rw [e] <;> decide
  | true=>rcases hd hq with e | e <;> rw [e] <;> decide
 have hday:30000≤C19.dayN l.base l.drop:=by
  obtain⟨b1,b2,b3,b4⟩:=C19.okB_bounds ho
  unfold C19.dayN
  omega
 have ht:∀ s∈titlesL,vLine s=true:=by decide +kernel
 unfold vEl
 rw [ho,ht _ h.t,decide_eq_true (show l.evs.length≤999 by have:=h.n;omega),vEvs_day hday h.v]
 rfl
set_option maxRecDepth 20000 in
set_option maxHeartbeats 16000000 in
theorem lawShows_core (k8:Nat) (hk8:8=k8) (a:Option Addr) (cap:Nat) (xs:List Int) (w:World)
  (HM:Hid (∀ w0,Gr w w0→Calls Tryz.prog 4 #[.slice a xs.length cap] w0 fun e w'=>∃ (l:El) (ea:Option Addr) (ec:Nat),e=.returned (l.val (.slice ea l.evs.length ec))∧Gr w0 w'∧ElR w' (.slice ea l.evs.length ec) l∧l.evs.length≤ec∧MadeE l))
  (HW:Hid (∀ w',Gr w w'→Calls Tryz.prog 11 #[] w' fun e w''=>e=.returned (.bool true)∧Gr w' w'')) :
  Calls Tryz.prog 3 #[.slice a xs.length cap] w fun e w'=>e=.returned (.bool true)∧Gr w w':=by
 have HT:Hid (∀ (l:El) (ea:Option Addr) (ec:Nat) (w':World),ElR w' (.slice ea l.evs.length ec) l→l.evs.length≤ec→MadeE l→vEl l=true→Calls Tryz.prog 5 #[l.val (.slice ea l.evs.length ec)] w' fun e w''=>∃ (ta:Option Addr) (tc:Nat) (ts:List CM),e=.returned (.tuple #[.slice ta ts.length tc,.int .i64 0])∧Gr w' w''∧TrR w'' (.slice ta ts.length tc) ts∧ts.map CM.c=trkL l.evs):=Lib.hid fun l ea ec w' h hc hm hv=>by
  refine (etrack_any l _ w' h (fun a n c e=>by injection e with e1 e2 e3;omega)).mono ?_
  rintro e w'' ⟨v',E,rfl,hg,hP⟩
  have:=made_len hm
  rcases hP with ⟨h1,_⟩ | ⟨_,h2,_⟩ | ⟨_,_,rfl,ts,h4,h5⟩
  ·rw [hv] at h1;cases h1
  ·omega
  ·obtain⟨ta,tc,rfl,_⟩:=h4.shape
   exact⟨ta,tc,ts,rfl,hg,h4,h5⟩
 have aE:∀ w,(isAgg 41).run Tryz.prog w=.ok true w:=Tryz.isAgg41
 have zE:∀ w,(Go.sizeOf 41).run Tryz.prog w=.ok k8 w:=fun w=>by rw [← hk8];exact Tryz.sizeOf41 w
 have stN:∀ (W:World) (cs:List Value),cs.length=8→(∀ v∈cs,v.oneCell'=true)→Sem.run Tryz.prog (storeCells ⟨W.heap.size,0,none⟩ cs 0) (W.alloc (.cells #[.int .i64 0,.string ⟨#[]⟩,.int .i64 0,.int .i64 0,.int .i64 0,.int .i64 0,.string ⟨#[]⟩,.slice none 0 0] 41))=.ok () (W.alloc (.cells cs.toArray 41)):=fun W cs h1 h2=>st_new W 41 #[.int .i64 0,.string ⟨#[]⟩,.int .i64 0,.int .i64 0,.int .i64 0,.int .i64 0,.string ⟨#[]⟩,.slice none 0 0] cs (by rw [h1];exact infoExpr) (by rw [h1];rfl) h2 (P:=Tryz.prog)
 replace hk8:=Lib.hid hk8
 replace stN:=Lib.hid stN
 go_enter Tryz.func3,Tryz.ntmps3
 go_upto_region 2 with (go_at_call 4;(with_reducible refine (HM.out _ (Gr.refl _)).mono ?_);rintro e w1 ⟨l,ea,ec,rfl,hg1,hE1,hec,hMd⟩;unfold El.val)
 have gA:=(Gr.refl w1).alloc (.cells #[.string l.title,.int .i64 l.base,.bool l.drop,.slice ea l.evs.length ec] 25)
 have hL:=Blk.new w1 [.string l.title,.int .i64 l.base,.bool l.drop,.slice ea l.evs.length ec] 25
 have hE2:=hE1.gr gA
 have hg2:=hg1.trans gA
 generalize w1.alloc (.cells #[.string l.title,.int .i64 l.base,.bool l.drop,.slice ea l.evs.length ec] 25)=W2 at *
 generalize w1.heap.size=LB at *
 have hvl:vEl l=true:=made_vel hMd
 have HT1:=Lib.hid (HT.out l ea ec W2 hE2 hec hMd hvl)
 unfold El.val at HT1
 clear hE1 hg1 gA hvl HM HT
 replace hMd:=Lib.hid hMd
 replace hE2:=Lib.hid hE2
 have z0:=hL.lt
 have z1:=(hL.cel.2 0 _ rfl).1
 have z2:=(hL.cel.2 1 _ rfl).1
 have z3:=(hL.cel.2 2 _ rfl).1
 have z4:=(hL.cel.2 3 _ rfl).1
 have HPr:Hid (∀ (ta:Option Addr) (tn tc:Nat) (w:World),Calls Tryz.prog 6 #[.slice ta tn tc] w fun e w'=>∃ MB mc SB TB,e=.returned (.agg #[.slice (some ⟨MB,0,none⟩) 3 mc,.slice (some ⟨SB,0,none⟩) 1 1])∧Gr w w'∧PrjR w' MB (fun i=>medQ (nmK i)) SB TB (.slice ta tn tc)):=Lib.hid project_core
 go_upto_region 7 with (first
  | (go_at_call 5;(with_reducible refine HT1.out.mono ?_);rintro e w3 ⟨ta,tc,ts,rfl,hg3,hT3,hts⟩;replace hts:=Lib.hid hts)
  | (go_at_call 6;(with_reducible refine (HPr.out _ _ _ _).mono ?_);rintro e w4 ⟨MB,mc,SB,TB,rfl,hg4,hP4⟩))
 have gA:=(Gr.refl w4).alloc (.cells #[.slice (some ⟨MB,0,none⟩) 3 mc,.slice (some ⟨SB,0,none⟩) 1 1] 35)
 have hSc:ShSc l LB w4.heap.size MB mc SB TB ea ec (.slice ta ts.length tc) ts (w4.alloc (.cells #[.slice (some ⟨MB,0,none⟩) 3 mc,.slice (some ⟨SB,0,none⟩) 1 1] 35)):=
  ⟨((hL.gr hg3).gr hg4).gr gA,((hE2.out.evs.gr hg3).gr hg4).gr gA,Blk.new _ _ _,hP4.gr gA,(hT3.gr hg4).gr gA⟩
 have hgW:=((hg2.trans hg3).trans hg4).trans gA
 clear z0 z1 z2 z3 z4 hL hE2 hg3 hg4 gA hP4 hT3 HT1 HPr hg2
 generalize w4.alloc (.cells #[.slice (some ⟨MB,0,none⟩) 3 mc,.slice (some ⟨SB,0,none⟩) 1 1] 35)=W at *
 generalize w4.heap.size=QB at *
 have HF:Hid (∀ (n:Int) (w':World),Gr W w'→0≤n∧n≤2147483647→Calls Tryz.prog 7 #[.agg #[.slice (some ⟨MB,0,none⟩) 3 mc,.slice (some ⟨SB,0,none⟩) 1 1],.string ⟨#[115]⟩,.int .i64 n] w' fun e w''=>∃ cs,e=.returned (.tuple #[.agg cs.toArray,.int .i64 0])∧Gr w' w''∧ExF w'.heap.size w'' cs (shC (trkL l.evs) n)):=Lib.hid fun n w' hg hn=>by
  have h:=dframe_any MB mc SB TB (fun i=>medQ (nmK i)) _ ts n w' (hSc.gr hg).pr (hSc.gr hg).tr (by have:=made_len hMd.out;rw [← hts.out,List.length_map] at this;omega) hn (by rw [hts.out];exact made_ck hMd.out) (by rw [hts.out,made_trk_tot hMd.out];have:=(made_tot hMd.out).2.2;omega)
   (Lib.hid fun w'' hg2=>tvalid_law hMd.out MB mc SB TB _ _ ts w'' (((hSc.gr hg).gr hg2).pr) (((hSc.gr hg).gr hg2).tr) hts.out)
  rw [hts.out] at h
  exact h
 replace hSc:=Lib.hid hSc
 replace hgW:=Lib.hid hgW
 have hn6:=hMd.out.n
 have z0:=hSc.out.lst.lt
 have z4:=(hSc.out.lst.cel.2 3 _ rfl).1
 go_wp2
 clear z0 z4
 go_loopw [7,33] (fun av iv wr=>∃ j:Nat,j≤l.evs.length∧iv=.int .i64 j∧av=.int .i64 (endE 0 (l.evs.take j))∧Gr W wr) (fun _ iv _=>l.evs.length - (RowKit.intOf iv).toNat)
 case atStart=>exact⟨0,Nat.zero_le _,rfl,rfl,Gr.refl _⟩
 case round=>
  obtain⟨j,hj,rfl,rfl,hg⟩:=hrel
  by_cases c1:j<l.evs.length
  ·have q1:decide ((j:Int)<(l.evs.length:Int))=true:=decide_eq_true (by omega)
   have hve:=made_ve hMd.out c1
   have hej:=endE_step c1
   obtain⟨hs1,hs2⟩:=made_shows hMd.out (evs_split c1)
   have hmem:=List.getElem_mem c1
   have hbf:=befL_at c1 l.evs[j]
   have hje:=hMd.out.o _ hmem
   obtain⟨pre,hpre⟩:∃ pre,l.evs.take j=pre:=⟨_,rfl⟩
   rw [hpre] at hve hs1 hs2 hbf ⊢
   replace hpre:=Lib.hid hpre
   have hSr:=hSc.out.gr hg
   obtain⟨ea',ec',hee,hesh⟩:=hSr.evs.shape
   injection hee with ee1 ee2 ee3
   subst ee1 ee3
   clear ee2
   rcases hesh with h0 | ⟨eb,eo,hea,heb,hec2⟩
   ·omega
   subst hea
   have hcell:=hec2 j c1
   obtain⟨e,he⟩:∃ e,l.evs[j]=e:=⟨_,rfl⟩
   rw [he] at hve hs1 hs2 hbf hmem hcell hej hje
   replace he:=Lib.hid he
   have y0:=hcell 0 _ rfl
   rw [Nat.add_zero] at y0
   have y1:=hcell 1 _ rfl
   have y2:=hcell 2 _ rfl
   have y3:=hcell 3 _ rfl
   have y4:=hcell 4 _ rfl
   have y5:=hcell 5 _ rfl
   have y6:=hcell 6 _ rfl
   have y7:=hcell 7 _ rfl
   go_wp2
   clear y0 y1 y2 y3 y4 y5 y6 y7 hcell hec2 heb hSr
   have hv1:=Blk.new wr e.cells 38
   have gA:=(Gr.refl wr).alloc (.cells e.cells.toArray 38)
   unfold Ev.cells at hv1 gA
   have hgX:=hg.trans gA
   clear gA hg
   generalize wr.alloc (.cells #[.int .i64 e.k,.int .i64 e.p,.int .i64 e.fr,.string e.reel,.int .i64 e.i,.int .i64 e.o,.int .i64 e.f,.int .i64 e.t] 38)=X at *
   generalize wr.heap.size=VB at *
   have hl0:=hve.l
   have hft:=hve.ft
   have htd:=hve.d
   have hef:=hve.fr
   obtain⟨be0,be1,be2,be3,be4⟩:=hve.bounds (by have:=(endE_ge (vEvs_mid (by have hv:=hMd.out.v;rw [evs_split c1,hpre.out] at hv;exact hv)).1).1;exact this)
   have hp0:0≤endE 0 pre:=by
    have hv:=hMd.out.v
    rw [evs_split c1,hpre.out] at hv
    exact (endE_ge (vEvs_mid hv).1).1
   obtain⟨P,hP⟩:∃ P,endE 0 pre=P:=⟨_,rfl⟩
   rw [hP] at hs1 hl0 hp0 ⊢
   replace hP:=Lib.hid hP
   replace hs1:=Lib.hid hs1
   replace hs2:=Lib.hid hs2
   replace hbf:=Lib.hid hbf
   replace hve:=Lib.hid hve
   replace hej:=Lib.hid hej
   have hvh:=Lib.hid hv1
   clear hv1
   go_loopw [7] (fun av wx=>∃ n:Int,av=.int .i64 n∧P≤n∧n≤e.f∧Gr X wx) (fun av _=>(e.f - RowKit.intOf av).toNat)
   case atStart=>exact⟨P,rfl,Int.le_refl _,hl0,Gr.refl _⟩
   case round=>
    obtain⟨n,rfl,hn0,hn1,hgn⟩:=hrel
    have hv1:=hvh.out.gr hgn
    have y:=hv1.lt
    have y6:=(hv1.cel.2 6 _ rfl).1
    by_cases c2:n<e.f
    ·as_aux_lemma=>
     have q2:decide (n<e.f)=true:=decide_eq_true c2
     have hSn:=hSc.out.gr (hgX.trans hgn)
     have z:=hSn.prj.lt
     have z1:=(hSn.prj.cel.2 0 _ rfl).1
     have z2:=(hSn.prj.cel.2 1 _ rfl).1
     have HFn:=Lib.hid (HF.out n wr (hgX.trans hgn) (by omega))
     rw [hs1.out n hn0 c2] at HFn
     clear hSn
     go_upto_region 13 with (go_at_call 7;(with_reducible refine (HFn.out).mono ?_);rintro e9 w2 ⟨cs,rfl,hg2,hx2⟩;have hck:=hx2.r.len.trans hk8.out;have st:=stN.out w2 cs hx2.r.len hx2.r.one)
     have gB:=(Gr.refl w2).alloc (.cells cs.toArray 41)
     have hB:=Blk.new w2 cs 41
     have hv2:=(hv1.gr hg2).gr gB
     have hgY:=(hgn.trans hg2).trans gB
     clear st HFn z z1 z2 y y6 hv1
     generalize w2.alloc (.cells cs.toArray 41)=Y at *
     have x:=hB.lt
     have x0:=(hB.cel.2 0 _ (exF_blk hx2)).1
     have y:=hv2.lt
     have y6:=(hv2.cel.2 6 _ rfl).1
     by_cases c3:20<e.f - n
     ·have q3:decide (20<e.f - n)=true:=decide_eq_true c3
      go_wp2
      go_roundw
      case rel=>exact⟨e.f - 20+1,by go_num,by omega,by omega,hgY⟩
      case measure=>simp [RowKit.intOf];omega
     ·have q3:decide (20<e.f - n)=false:=decide_eq_false c3
      go_wp2
      go_roundw
      case rel=>exact⟨n+1,by go_num,by omega,by omega,hgY⟩
      case measure=>simp [RowKit.intOf];omega
    ·obtain rfl:n=e.f:=by omega
     have q2:decide (e.f<e.f)=false:=decide_eq_false c2
     clear hn0 hn1 q2
     have q2:decide (e.f<e.f)=false:=by simp
     go_wp2
     clear y y6 hv1 q2 c2
     go_loopw [7,12] (fun av kv wx=>∃ k:Int,kv=.int .i64 k∧av=.int .i64 (e.f+k)∧0≤k∧k≤e.t - e.f∧Gr X wx) (fun _ kv _=>(e.t - e.f - RowKit.intOf kv).toNat)
     case atStart=>exact⟨0,rfl,by simp,by omega,by omega,hgn⟩
     case round=>
      obtain⟨k,rfl,rfl,hk0,hk1,hgk⟩:=hrel
      have hv1:=hvh.out.gr hgk
      have y:=hv1.lt
      have y2:=(hv1.cel.2 2 _ rfl).1
      have y3:=(hv1.cel.2 3 _ rfl).1
      have y4:=(hv1.cel.2 4 _ rfl).1
      have y6:=(hv1.cel.2 6 _ rfl).1
      have y7:=(hv1.cel.2 7 _ rfl).1
      by_cases c4:k<e.t - e.f
      ·have q4:decide (k<e.t - e.f)=true:=decide_eq_true c4
       have HS:Hid (∀ w',Calls Tryz.prog 8 #[.string e.reel,.int .i64 (e.i+k)] w' fun e9 w''=>e9=.returned (.agg (lfC (stL e.reel (e.i+k)) nilE).toArray)∧Gr w' w''):=Lib.hid (still_any e.reel (e.i+k))
       obtain⟨sl,hsl⟩:∃ sl,lfC (stL e.reel (e.i+k)) nilE=sl:=⟨_,rfl⟩
       rw [hsl] at HS
       have hsl8:Hid (sl.length=8):=Lib.hid (by rw [← hsl];rfl)
       have hslo:Hid (∀ v∈sl,v.oneCell'=true):=Lib.hid (by rw [← hsl];exact exC_one _ _ _ _ _ _ _ _ _ _)
       replace hsl:=Lib.hid hsl
       go_upto_region 21 with (go_at_call 8;(with_reducible refine (HS.out _).mono ?_);rintro e9 w2 ⟨rfl,hg2⟩;have hslk:=hsl8.out.trans hk8.out;have st:=stN.out w2 sl hsl8.out hslo.out)
       have gB:=(Gr.refl w2).alloc (.cells sl.toArray 41)
       have hB:=Blk.new w2 sl 41
       have hv2:=(hv1.gr hg2).gr gB
       have hgY:=(hgk.trans hg2).trans gB
       have hX2:Hid (X.heap.size≤w2.heap.size):=Lib.hid (hgk.trans hg2).size
       clear st HS y y2 y3 y4 y6 y7 hv1 hgk hg2 gB
       generalize w2.alloc (.cells sl.toArray 41)=Y at *
       generalize w2.heap.size=XB at *
       have x:=hB.lt
       have y:=hv2.lt
       have y2:=(hv2.cel.2 2 _ rfl).1
       go_upto_if 84 with fail
       clear x y y2
       go_cut [] (fun wx=>∃ ds:List Value,ds.length=8∧(∀ v∈ds,v.oneCell'=true)∧Blk wx XB 41 ds∧ExR wx ds (lawX pre e k)∧Gr X wx)
       case first=>
        by_cases c5:k<e.fr
        ·have q5:decide (k<e.fr)=true:=decide_eq_true c5
         have hlx:Hid (lawX pre e k=redX (e.k+1) (shN (k+1) (e.fr+1)) (shD (k+1) (e.fr+1)) e.p (befL pre e k) (stL e.reel (e.i+k))):=Lib.hid (by unfold lawX;rw [if_pos c5])
         have hkd:(e.k=1∧e.p=0)∨(e.k=2∧0≤e.p∧e.p≤3):=by
          rcases hve.out.kd with ⟨_,h,_⟩ | ⟨h1,_,_,h2⟩ | ⟨h1,_,_,h2,h3⟩
          ·omega
          ·exact .inl ⟨h1,h2⟩
          ·exact .inr ⟨h1,h2,h3⟩
         have hfr9:e.fr≤999:=by
          rcases hve.out.kd with ⟨_,h,_⟩ | ⟨_,_,h,_⟩ | ⟨_,_,h,_⟩ <;> omega
         have hLY:LfV (stL e.reel (e.i+k)):=made_reel hMd.out hmem (by omega)
         have hOn:∀ x∈l.evs,0≤x.o:=fun x hx=>made_on hMd.out hx
         have hLB:∀ k:Int,0≤k∧k≤1000→LfV (befL pre e k):=fun k hk=>by
          rw [hbf.out k]
          by_cases h:0<j
          ·rw [dif_pos h]
           split
           ·have h1:=(hMd.out.o _ (List.getElem_mem (show j - 1<l.evs.length by omega))).1
            have h2:=hOn _ (List.getElem_mem (show j - 1<l.evs.length by omega))
            exact made_reel hMd.out (List.getElem_mem _) (by omega)
           ·exact vfields_blk
          ·rw [dif_neg h]
           exact vfields_blk
         obtain⟨al,hal0⟩:∃ al,lfC (befL pre e k) nilE=al:=⟨_,rfl⟩
         have hal:al.length=8:=by rw [← hal0];rfl
         have hYX:Hid (X.heap.size≤XB):=hX2
         have HSh:Hid (∀ w',Calls Tryz.prog 9 #[.agg #[.int .i64 e.k,.int .i64 e.p,.int .i64 e.fr,.string e.reel,.int .i64 e.i,.int .i64 e.o,.int .i64 e.f,.int .i64 e.t],.int .i64 k,.agg al.toArray,.agg sl.toArray] w' fun e9 w''=>∃ cs,e9=.returned (.agg cs.toArray)∧Gr w' w''∧ExF w'.heap.size w'' cs (redX (e.k+1) (shN (k+1) (e.fr+1)) (shD (k+1) (e.fr+1)) e.p (befL pre e k) (stL e.reel (e.i+k)))):=Lib.hid fun w'=>by
          rw [← hal0,← hsl.out]
          exact share_core 8 rfl e k (befL pre e k) (stL e.reel (e.i+k)) w' hkd hk0 c5 hfr9 (hLB k ⟨hk0,by omega⟩) hLY
         have hal1:Hid (∀ v∈al,v.oneCell'=true):=Lib.hid (by rw [← hal0];exact exC_one _ _ _ _ _ _ _ _ _ _)
         have halk:al.length=k8:=hal.trans hk8.out
         replace hal:=Lib.hid hal
         have hal0:=Lib.hid hal0
         replace zE:=Lib.hid zE
         go_upto_region 23 with fail
         replace zE:=zE.out
         have gC:=(Gr.refl Y).alloc (.cells #[.int .i64 0,.string ⟨#[]⟩,.int .i64 0,.int .i64 0,.int .i64 0,.int .i64 0,.string ⟨#[]⟩,.slice none 0 0] 41)
         have hz0:=Blk.new Y (lfC .blk nilE) 41
         have hb3:=hB.gr gC
         have hv3:=hv2.gr gC
         have hg3:=hgY.trans gC
         have hZB:Hid (XB<Y.heap.size):=Lib.hid hB.lt
         have hZVB:Hid (VB<Y.heap.size):=Lib.hid hv2.lt
         clear hB hv2 hgY gC
         obtain⟨Z,hZ⟩:∃ Z,Y.alloc (.cells #[.int .i64 0,.string ⟨#[]⟩,.int .i64 0,.int .i64 0,.int .i64 0,.int .i64 0,.string ⟨#[]⟩,.slice none 0 0] 41)=Z:=⟨_,rfl⟩
         have hZ2:Y.alloc (.cells (lfC .blk nilE).toArray 41)=Z:=hZ
         rw [hZ2] at hz0
         rw [hZ] at hb3 hv3 hg3 ⊢
         clear hZ hZ2
         obtain⟨ZB,hZBe⟩:∃ ZB,Y.heap.size=ZB:=⟨_,rfl⟩
         rw [hZBe] at hz0 hZB hZVB ⊢
         clear hZBe
         by_cases cj:0<j
         ·obtain⟨j',hj'⟩:∃ j',j=j'+1:=⟨j - 1,by omega⟩
          have hbk:=hbf.out k
          rw [dif_pos cj] at hbk
          have hlt':j'<l.evs.length:=by omega
          have hji:(j:Int) - 1=(j':Int):=by omega
          have hj2:j - 1=j':=by omega
          replace hj':=Lib.hid hj'
          have hSZ:=hSc.out.gr (hgX.trans hg3)
          obtain⟨hel,hecs⟩:=EvsR.at8 hSZ.evs hlt'
          have hxe:l.evs[j - 1]'(by omega)=l.evs[j']:=by simp only [hj2]
          rw [hxe] at hbk
          clear hj2 hxe
          have hcell:=hecs
          obtain⟨x,hx⟩:∃ x,l.evs[j']=x:=⟨_,rfl⟩
          have hxm:x∈l.evs:=by rw [← hx];exact List.getElem_mem hlt'
          have hxo:=(hMd.out.o x hxm).1
          have hxn:0≤x.o:=hOn x hxm
          rw [hx] at hbk hcell
          have u0:=hSZ.lst.lt
          have u3:=(hSZ.lst.cel.2 3 _ rfl).1
          have u7:=hcell 7 _ rfl
          have v0:=hv3.lt
          have v6:=(hv3.cel.2 6 _ rfl).1
          have q6:decide (0<(j:Int))=true:=decide_eq_true (by omega)
          by_cases cx:x.t=e.f
          ·rw [if_pos cx] at hbk
           have q7:(x.t == e.f)=true:=by simp [cx]
           refine wp_region_gr (by as_aux_lemma=>kernel_rfl) (by as_aux_lemma=>kernel_rfl) (fun hq1 hq2=>?_)
           repeat (first | go_big_quiet_skip | (go_big_quiet_want;go_big_quiet_op;first | go_big_quiet_on | (apply Exists.intro;refine⟨fun _=>?_,?_⟩;(· (fail));go_big_quiet_on)))
           refine wpQuiet_nil ?_
           clear hq1 hq2
           rintro w1 ⟨⟨_,hg1⟩,rfl⟩
           obtain⟨hc1,hf1⟩:=hg1.cells
           have hz1:=hg1.size
           (try simp at hz1);(try have hl1_0_0:w.heap.size<w1.heap.size:=by omega);(try have hm1_0_0:w.heap.size≤w1.heap.size:=by omega);(try have hl1_0_1:w.heap.size+1<w1.heap.size:=by omega);(try have hl1_0_2:w.heap.size+2<w1.heap.size:=by omega)
           have hSZ1:=hSZ.gr hg1
           obtain⟨hel1,hecs1⟩:=EvsR.at8 hSZ1.evs hlt'
           rw [hx] at hecs1
           have hz1b:=hz0.gr hg1
           have hb1b:=hb3.gr hg1
           have hv1b:=hv3.gr hg1
           have hg1b:=hg3.trans hg1
           have i0:=hSZ1.lst.lt
           have i3:=(hSZ1.lst.cel.2 3 _ rfl).1
           have i33:=hecs1 3 _ rfl
           have i35:=hecs1 5 _ rfl
           have HS2:Hid (∀ w',Calls Tryz.prog 8 #[.string x.reel,.int .i64 (x.o+k)] w' fun e9 w''=>e9=.returned (.agg al.toArray)∧Gr w' w''):=Lib.hid fun w'=>by
            have:=still_any x.reel (x.o+k) w'
            rw [← hbk,hal0.out] at this
            exact this
           clear hc1 hf1 hz1 hg1 hg3 hb3 hv3 hz0 hSZ hcell hecs hel u0 u3 u7 v0 v6 hSZ1 hecs1
           go_upto_region 24 with fail
           refine wp_region_gr_tail 17 (by as_aux_lemma=>kernel_rfl) (by as_aux_lemma=>kernel_rfl) (fun hq1 hq2=>?_)
           simp only [List.take_succ_cons,List.take_zero,List.drop_succ_cons,List.drop_zero]
           repeat (first | go_big_quiet_skip | (go_big_quiet_want;go_big_quiet_op;first | go_big_quiet_on | (apply Exists.intro;refine⟨fun _=>?_,?_⟩;(· ((go_at_call 8;exact gr_call (HS2.out _))));go_big_quiet_on)))
           refine wpQuiet_nil ?_
           clear hq1 hq2
           rintro w2 ⟨⟨_,hg2⟩,rfl⟩
           obtain⟨hc2,hf2⟩:=hg2.cells
           have hz2:=hg2.size
           (try simp at hz2);(try have hl2_0_0:w.heap.size<w2.heap.size:=by omega);(try have hm2_0_0:w.heap.size≤w2.heap.size:=by omega);(try have hl2_0_1:w.heap.size+1<w2.heap.size:=by omega);(try have hl2_0_2:w.heap.size+2<w2.heap.size:=by omega);(try have hl2_1_0:w1.heap.size<w2.heap.size:=by omega);(try have hm2_1_0:w1.heap.size≤w2.heap.size:=by omega);(try have hl2_1_1:w1.heap.size+1<w2.heap.size:=by omega);(try have hl2_1_2:w1.heap.size+2<w2.heap.size:=by omega)
           have hz2b:=hz1b.gr hg2
           have st2:=stB hz2b (l:=al) (by rw [hal.out];rfl) hal1.out
           have z2l:=hz2b.lt
           go_upto_region 25 with fail
           have hZz:=blk_set hz2b al
           have hb2b:=hb1b.gr hg2
           have hv2b:=hv1b.gr hg2
           have hZb:=blk_setRow_other hb2b (g:=ZB) (by have:=hZB.out;omega) al.toArray
           have hZv:=blk_setRow_other hv2b (g:=ZB) (by have:=hZVB.out;omega) al.toArray
           have hgZ:=gr_setRow (hg1b.trans hg2) (g:=ZB) (by have:=hZB.out;have:=hX2.out;omega) al.toArray
           have hZX:XB<(w2.setRow ZB al.toArray).heap.size:=hZb.lt
           clear hc2 hf2 hz2 hg2 hg1b hz1b hb1b hv1b hz2b hb2b hv2b st2 z2l i0 i3 i33 i35 HS2 hbk
           generalize w2.setRow ZB al.toArray=W9 at *
           have lz:=ldB halk hZz
           have lw:=ldB (hsl8.out.trans hk8.out) hZb
           have v0:=hZv.lt
           have v1:=(hZv.cel.2 0 _ rfl).1
           have v11:=(hZv.cel.2 1 _ rfl).1
           have v12:=(hZv.cel.2 2 _ rfl).1
           have v13:=(hZv.cel.2 3 _ rfl).1
           have v14:=(hZv.cel.2 4 _ rfl).1
           have v15:=(hZv.cel.2 5 _ rfl).1
           have v16:=(hZv.cel.2 6 _ rfl).1
           have v17:=(hZv.cel.2 7 _ rfl).1
           have zz:=hZz.lt
           have zb:=hZb.lt
           go_wp2_with (go_at_call 9;(with_reducible refine (HSh.out _).mono ?_);rintro e9 w6 ⟨ds,rfl,hg6,hx6⟩;have hdk:=hx6.r.len.trans hk8.out;have hZb6:=hZb.gr hg6;have st6:=stB hZb6 (hx6.r.len.trans hsl8.out.symm) hx6.r.one;have zb6:=hZb6.lt)
           have hbR:=blk_set hZb6 ds
           have hgR:=gr_setRow (hgZ.trans hg6) (g:=XB) hYX.out ds.toArray
           have hxR:=(hx6.setRow (k:=XB) hZX ds.toArray).r
           go_meet
           case rel=>exact⟨ds,hx6.r.len,hx6.r.one,hbR,by rw [hlx.out];exact hxR,hgR⟩
          ·rw [if_neg cx] at hbk
           have q7:(x.t == e.f)=false:=by simp [cx]
           have hale:al=lfC .blk nilE:=by rw [← hal0.out,hbk]
           rw [← hale] at hz0
           refine wp_region_gr (by as_aux_lemma=>kernel_rfl) (by as_aux_lemma=>kernel_rfl) (fun hq1 hq2=>?_)
           repeat (first | go_big_quiet_skip | (go_big_quiet_want;go_big_quiet_op;first | go_big_quiet_on | (apply Exists.intro;refine⟨fun _=>?_,?_⟩;(· (fail));go_big_quiet_on)))
           refine wpQuiet_nil ?_
           clear hq1 hq2
           rintro w1 ⟨⟨_,hg1⟩,rfl⟩
           obtain⟨hc1,hf1⟩:=hg1.cells
           have hz1:=hg1.size
           (try simp at hz1);(try have hl1_0_0:w.heap.size<w1.heap.size:=by omega);(try have hm1_0_0:w.heap.size≤w1.heap.size:=by omega);(try have hl1_0_1:w.heap.size+1<w1.heap.size:=by omega);(try have hl1_0_2:w.heap.size+2<w1.heap.size:=by omega)
           have hZz:=hz0.gr hg1
           have hZb:=hb3.gr hg1
           have hZv:=hv3.gr hg1
           have hgZ:=hg3.trans hg1
           have hZX:XB<w1.heap.size:=hZb.lt
           clear hc1 hf1 hz1 hg1 hg3 hb3 hv3 hz0 hbk hale hSZ hcell hecs hel u0 u3 u7 v0 v6
           have lz:=ldB halk hZz
           have lw:=ldB (hsl8.out.trans hk8.out) hZb
           have v0:=hZv.lt
           have v1:=(hZv.cel.2 0 _ rfl).1
           have v11:=(hZv.cel.2 1 _ rfl).1
           have v12:=(hZv.cel.2 2 _ rfl).1
           have v13:=(hZv.cel.2 3 _ rfl).1
           have v14:=(hZv.cel.2 4 _ rfl).1
           have v15:=(hZv.cel.2 5 _ rfl).1
           have v16:=(hZv.cel.2 6 _ rfl).1
           have v17:=(hZv.cel.2 7 _ rfl).1
           have zz:=hZz.lt
           have zb:=hZb.lt
           go_wp2_with (go_at_call 9;(with_reducible refine (HSh.out _).mono ?_);rintro e9 w6 ⟨ds,rfl,hg6,hx6⟩;have hdk:=hx6.r.len.trans hk8.out;have hZb6:=hZb.gr hg6;have st6:=stB hZb6 (hx6.r.len.trans hsl8.out.symm) hx6.r.one;have zb6:=hZb6.lt)
           have hbR:=blk_set hZb6 ds
           have hgR:=gr_setRow (hgZ.trans hg6) (g:=XB) hYX.out ds.toArray
           have hxR:=(hx6.setRow (k:=XB) hZX ds.toArray).r
           go_meet
           case rel=>exact⟨ds,hx6.r.len,hx6.r.one,hbR,by rw [hlx.out];exact hxR,hgR⟩
         ·have hbk:=hbf.out k
          rw [dif_neg cj] at hbk
          have hale:al=lfC .blk nilE:=by rw [← hal0.out,hbk]
          rw [← hale] at hz0
          have q6:decide (0<(j:Int))=false:=decide_eq_false (by omega)
          refine wp_region_gr (by as_aux_lemma=>kernel_rfl) (by as_aux_lemma=>kernel_rfl) (fun hq1 hq2=>?_)
          repeat (first | go_big_quiet_skip | (go_big_quiet_want;go_big_quiet_op;first | go_big_quiet_on | (apply Exists.intro;refine⟨fun _=>?_,?_⟩;(· (fail));go_big_quiet_on)))
          refine wpQuiet_nil ?_
          clear hq1 hq2
          rintro w1 ⟨⟨_,hg1⟩,rfl⟩
          obtain⟨hc1,hf1⟩:=hg1.cells
          have hz1:=hg1.size
          (try simp at hz1);(try have hl1_0_0:w.heap.size<w1.heap.size:=by omega);(try have hm1_0_0:w.heap.size≤w1.heap.size:=by omega);(try have hl1_0_1:w.heap.size+1<w1.heap.size:=by omega);(try have hl1_0_2:w.heap.size+2<w1.heap.size:=by omega)
          have hZz:=hz0.gr hg1
          have hZb:=hb3.gr hg1
          have hZv:=hv3.gr hg1
          have hgZ:=hg3.trans hg1
          have hZX:XB<w1.heap.size:=hZb.lt
          clear hc1 hf1 hz1 hg1 hg3 hb3 hv3 hz0 hbk hale
          have lz:=ldB halk hZz
          have lw:=ldB (hsl8.out.trans hk8.out) hZb
          have v0:=hZv.lt
          have v1:=(hZv.cel.2 0 _ rfl).1
          have v11:=(hZv.cel.2 1 _ rfl).1
          have v12:=(hZv.cel.2 2 _ rfl).1
          have v13:=(hZv.cel.2 3 _ rfl).1
          have v14:=(hZv.cel.2 4 _ rfl).1
          have v15:=(hZv.cel.2 5 _ rfl).1
          have v16:=(hZv.cel.2 6 _ rfl).1
          have v17:=(hZv.cel.2 7 _ rfl).1
          have zz:=hZz.lt
          have zb:=hZb.lt
          go_wp2_with (go_at_call 9;(with_reducible refine (HSh.out _).mono ?_);rintro e9 w6 ⟨ds,rfl,hg6,hx6⟩;have hdk:=hx6.r.len.trans hk8.out;have hZb6:=hZb.gr hg6;have st6:=stB hZb6 (hx6.r.len.trans hsl8.out.symm) hx6.r.one;have zb6:=hZb6.lt)
          have hbR:=blk_set hZb6 ds
          have hgR:=gr_setRow (hgZ.trans hg6) (g:=XB) hYX.out ds.toArray
          have hxR:=(hx6.setRow (k:=XB) hZX ds.toArray).r
          go_meet
          case rel=>exact⟨ds,hx6.r.len,hx6.r.one,hbR,by rw [hlx.out];exact hxR,hgR⟩
        ·have q5:decide (k<e.fr)=false:=decide_eq_false c5
         go_wp2
         go_meet
         case rel=>exact⟨sl,hsl8.out,hslo.out,hB,by unfold lawX;rw [if_neg (by omega)];exact⟨nilE,rfl,hsl.out.symm⟩,hgY⟩
       case rest=>
        obtain⟨ds,hd8,hdo,hbd,hxd,hgd⟩:=hcut
        have hSn:=hSc.out.gr (hgX.trans hgd)
        have z:=hSn.prj.lt
        have z1:=(hSn.prj.cel.2 0 _ rfl).1
        have z2:=(hSn.prj.cel.2 1 _ rfl).1
        have HFn:=Lib.hid (HF.out (e.f+k) _ (hgX.trans hgd) (by omega))
        rw [hs2.out k hk0 c4] at HFn
        clear hSn
        go_upto_region 27 with (go_at_call 7;(with_reducible refine (HFn.out).mono ?_);rintro e9 w3 ⟨cs,rfl,hg3,hx3⟩;have hck:=hx3.r.len.trans hk8.out;have st:=stN.out w3 cs hx3.r.len hx3.r.one)
        have gC:=(Gr.refl w3).alloc (.cells cs.toArray 41)
        have hC:=Blk.new w3 cs 41
        have hbd2:=(hbd.gr hg3).gr gC
        have hxd2:=(hxd.gr hg3).gr gC
        have hxc:=(hx3.gr gC).r
        have hgZ:=(hgd.trans hg3).trans gC
        clear st HFn z z1 z2 hbd hxd hg3 gC hgd hx3
        generalize w3.alloc (.cells cs.toArray 41)=Z at *
        have HSm:=Lib.hid (same_refl hxc hxd2)
        have la:=ldB hck hC
        have lb:=ldB (hd8.trans hk8.out) hbd2
        have x:=hC.lt
        have x':=hbd2.lt
        clear hxc hxd2 hd8 hdo
        go_wp2_with (go_at_call 10;(with_reducible refine HSm.out.mono ?_);rintro e9 w5 ⟨rfl,hg5⟩)
        go_roundw
        case rel=>exact⟨k+1,by go_num,by congr 1;omega,by omega,by omega,hgZ.trans hg5⟩
        case measure=>simp [RowKit.intOf];omega
      ·obtain rfl:k=e.t - e.f:=by omega
       have q4:decide (e.t - e.f<e.t - e.f)=false:=by simp
       go_wp2
       go_roundw
       case rel=>exact⟨j+1,by omega,by go_num,by rw [hej.out];congr 1;omega,hgX.trans hgk⟩
       case measure=>simp [RowKit.intOf];omega
  ·obtain rfl:j=l.evs.length:=by omega
   have q1:decide ((l.evs.length:Int)<(l.evs.length:Int))=false:=by simp
   rw [List.take_length]
   have hE0:=made_tot hMd.out
   have hEnd:=made_end hMd.out
   obtain⟨F,hF0⟩:∃ F,endE 0 l.evs=F:=⟨_,rfl⟩
   rw [hF0] at hE0 hEnd ⊢
   obtain⟨hE1,hE2,hE3⟩:=hE0
   have hSn:=hSc.out.gr hg
   have z:=hSn.prj.lt
   have z1:=(hSn.prj.cel.2 0 _ rfl).1
   have z2:=(hSn.prj.cel.2 1 _ rfl).1
   have HFn:=Lib.hid (HF.out F wr hg (by omega))
   rw [hEnd] at HFn
   clear hSn hE1 hEnd hF0 c1 hj
   go_upto_region 32 with (go_at_call 7;(with_reducible refine (HFn.out).mono ?_);rintro e9 w3 ⟨cs,rfl,hg3,hx3⟩;have hck:=hx3.r.len.trans hk8.out;have st:=stN.out w3 cs hx3.r.len hx3.r.one)
   have gC:=(Gr.refl w3).alloc (.cells cs.toArray 41)
   have hC:=Blk.new w3 cs 41
   have hgZ:=((hgW.out.trans hg).trans hg3).trans gC
   clear st HFn z z1 z2 hg3 gC
   generalize w3.alloc (.cells cs.toArray 41)=Z at *
   have x:=hC.lt
   have x0:=(hC.cel.2 0 _ (exF_blk hx3)).1
   go_wp2_with (go_at_call 11;(with_reducible refine (HW.out _ hgZ).mono ?_);rintro e9 w9 ⟨rfl,hg9⟩)
   go_ret
   exact⟨rfl,hgZ.trans hg9⟩
end Go.Proofs.YtnginfangeikpaaGreatDoor
