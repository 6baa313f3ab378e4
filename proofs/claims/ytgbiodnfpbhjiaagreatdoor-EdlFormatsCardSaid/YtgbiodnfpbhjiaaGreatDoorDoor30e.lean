/-
  Contract of Same of the reference, for a list that stands twice in memory.
  Conditions: both lie in memory.
-/
import Derived.Test.YtgbiodnfpbhjiaaGreatDoorWalkEe
import Derived.Deep.DeepCutAuto
import Derived.Test.YtgbiodnfpbhjiaaGreatDoorWalk19S
import Derived.Test.YtgbiodnfpbhjiaaGreatDoorWalkXu
import Derived.Test.YtgbiodnfpbhjiaaGreatDoorWalkXm
import Derived.Test.YtgbiodnfpbhjiaaGreatDoorRows
import Derived.Test.YtgbiodnfpbhjiaaGreatDoorWalkRp
import Derived.ProofKit
import Derived.LaidMore
import Derived.LaidOnce
import Derived.Stop.LaidErr
import Derived.Test.YtgbiodnfpbhjiaaGreatDoorKit
import Derived.Lib.SmallJoins
import Derived.Test.YtgbiodnfpbhjiaaGreatDoorWalkBd
import Derived.Test.YtgbiodnfpbhjiaaGreatDoorClip
import Derived.Deep.Slices
import Derived.Deep.Strs
import Derived.SliceStrings
import Derived.ChangeSlices
import Derived.SizedLaws
import Derived.Laws.LoneSync
import Derived.Test.YtgbiodnfpbhjiaaGreatDoorWalkTm
import Derived.OpenShut
import Derived.Carry
import Derived.Test.YtgbiodnfpbhjiaaGreatDoorWalkXc
import Derived.Lay
namespace Go.Proofs.YtgbiodnfpbhjiaaGreatDoor
open Go.RowKit Go.Lib
set_option linter.unusedSimpArgs false
set_option linter.unusedVariables false
set_option maxHeartbeats 1000000 in
theorem neq_ev (x:Ev) (w:World):(binOp .neq 30 x.val x.val).run Tryz.prog w=.ok (.bool false) w:=by
 obtain⟨k,p,fr,reel,i,o,f,t⟩:=x
 unfold Ev.val
 simp [go_sem]
set_option maxRecDepth 20000 in
set_option maxHeartbeats 4000000 in
theorem rsame_true (l:El) (v v':Value) (w:World) (h:ElR w v l) (h':ElR w v' l):Calls Tryz.prog 22 #[l.val v,l.val v'] w fun e w'=>e=.returned (.bool true)∧Gr w w':=by
 have hr:=h.evs
 have hr':=h'.evs
 have hn:=h.n
 obtain⟨title,base,drop,evs⟩:=l
 simp only at hr hr' hn
 clear h h'
 obtain⟨a1,c1,rfl,ha1⟩:=hr.shape
 obtain⟨a2,c2,rfl,ha2⟩:=hr'.shape
 have hneq:=Lib.hid neq_ev
 unfold El.val
 simp only
 obtain⟨W,hW⟩:∃ W,(w.alloc (.cells #[.string title,.int .i64 base,.bool drop,.slice a1 evs.length c1] 24)).alloc (.cells #[.string title,.int .i64 base,.bool drop,.slice a2 evs.length c2] 24)=W:=⟨_,rfl⟩
 have hgA:Gr w W:=by rw [← hW];exact ((Gr.refl w).alloc _).alloc _
 have hb1:Cel W w.heap.size [.string title,.int .i64 base,.bool drop,.slice a1 evs.length c1]:=by rw [← hW];exact (Cel.new w #[.string title,.int .i64 base,.bool drop,.slice a1 evs.length c1] 24).alloc _
 have hb2:Cel W (w.heap.size+1) [.string title,.int .i64 base,.bool drop,.slice a2 evs.length c2]:=by
  rw [← hW]
  have:=Cel.new (w.alloc (.cells #[.string title,.int .i64 base,.bool drop,.slice a1 evs.length c1] 24)) #[.string title,.int .i64 base,.bool drop,.slice a2 evs.length c2] 24
  simpa using this
 replace hW:=Lib.hid hW
 replace ha1:=Lib.hid ha1
 replace ha2:=Lib.hid ha2
 clear hr hr'
 go_enter Tryz.func22,Tryz.ntmps22
 go_upto_region 1 with fail
 rw [hW.out]
 have x:=hb1.lt
 have x0:=(hb1.2 0 _ rfl).1
 have x1:=(hb1.2 1 _ rfl).1
 have x2:=(hb1.2 2 _ rfl).1
 have x3:=(hb1.2 3 _ rfl).1
 have y:=hb2.lt
 have y0:=(hb2.2 0 _ rfl).1
 have y1:=(hb2.2 1 _ rfl).1
 have y2:=(hb2.2 2 _ rfl).1
 have y3:=(hb2.2 3 _ rfl).1
 go_wp2
 go_loopw [5] (fun i wr=>∃ j:Nat,j≤evs.length∧i=.int .i64 j∧Gr W wr) (fun i _=>evs.length - (RowKit.intOf i).toNat)
 case atStart=>exact⟨0,Nat.zero_le _,rfl,Gr.refl _⟩
 case round=>
  obtain⟨j,hj,rfl,hg⟩:=hrel
  clear x x0 x1 x2 x3 y y0 y1 y2 y3
  have x:=(hb1.gr hg).lt
  have x3:=((hb1.gr hg).2 3 _ rfl).1
  have y:=(hb2.gr hg).lt
  have y3:=((hb2.gr hg).2 3 _ rfl).1
  by_cases k1:j<evs.length
  ·have q1:decide ((j:Int)<(evs.length:Int))=true:=decide_eq_true (by omega)
   rcases ha1.out with h0 | ⟨p1,o1,rfl,hp1,hc1⟩
   ·omega
   rcases ha2.out with h0 | ⟨p2,o2,rfl,hp2,hc2⟩
   ·omega
   have hx1:p1<wr.heap.size:=Nat.lt_of_lt_of_le hp1 (hgA.trans hg).size
   have hx2:p2<wr.heap.size:=Nat.lt_of_lt_of_le hp2 (hgA.trans hg).size
   obtain⟨e0,e1,e2,e3,e4,e5,e6,e7⟩:=ev_cells k1 hp1 (hgA.trans hg) hc1
   obtain⟨f0,f1,f2,f3,f4,f5,f6,f7⟩:=ev_cells k1 hp2 (hgA.trans hg) hc2
   have hq:=hneq.out evs[j]
   generalize evs[j]=e at *
   unfold Ev.val at hq
   clear hc1 hc2
   go_upto_region 6 with fail
   refine wp_region_gr (by kernel_rfl) (by kernel_rfl) (fun hq1 hq2=>?_)
   repeat (first | go_big_quiet_skip | (go_big_quiet_want;go_big_quiet_op;first | go_big_quiet_on | (apply Exists.intro;refine⟨fun _=>?_,?_⟩;(· (fail));go_big_quiet_on)))
   refine wpQuiet_nil ?_
   clear hq1 hq2
   rintro w1 ⟨⟨_,hg1⟩,rfl⟩
   obtain⟨hc1,hf1⟩:=hg1.cells
   have hz1:=hg1.size
   (try simp at hz1);(try have hl1_0_0:w.heap.size<w1.heap.size:=by omega);(try have hm1_0_0:w.heap.size≤w1.heap.size:=by omega);(try have hl1_0_1:w.heap.size+1<w1.heap.size:=by omega);(try have hl1_0_2:w.heap.size+2<w1.heap.size:=by omega)
   go_wp2
   go_roundw
   case rel=>exact⟨j+1,by omega,by go_num,hg.trans hg1⟩
   case measure=>simp [RowKit.intOf];omega
  ·have q1:decide ((j:Int)<(evs.length:Int))=false:=decide_eq_false (by omega)
   go_wp2
   go_ret
   exact⟨rfl,hgA.trans hg⟩
end Go.Proofs.YtgbiodnfpbhjiaaGreatDoor

namespace Go.Proofs.YtgbiodnfpbhjiaaGreatDoor
open Go.RowKit Go.Lib
set_option linter.unusedSimpArgs false
set_option linter.unusedVariables false
theorem fmtB_len {l:El} (h:vEl l=true):(fmtB l).length≤110000:=by
 have h1:=flatB_len (lines_size l h)
 have h2:=(linesB_ok l h).2
 obtain⟨_,_,h3,_⟩:=vEl_parts h
 unfold fmtB
 rw [h2] at h1
 omega
theorem ba_of_size (l:List UInt8):(⟨l.toArray⟩:ByteArray).size=l.length:=by rw [← ba_len]
theorem okB_false {b:Int} {d:Bool} (h:C19.okB b d=true):C19.okB b false=true:=by
 unfold C19.okB at *
 simp only [Bool.and_eq_true] at h ⊢
 exact⟨h.1,rfl⟩
theorem eParse_back (l:El) (w:World) (hv:vEl l=true) (hP:Pow w) (hT:Er w) (hM:Mx w) :
  Calls Tryz.prog 26 #[.string ⟨(fmtB l).toArray⟩,.int .i64 l.base] w fun e w'=>∃ (p:Option Addr) (c:Nat),e=.returned (.tuple #[l.val (.slice p l.evs.length c),.int .i64 0])∧Gr w w'∧ElR w' (.slice p l.evs.length c) l:=by
 refine (eParse_any ⟨(fmtB l).toArray⟩ l.base w hP hT hM (by rw [ba_of_size];have:=fmtB_len hv;omega)).mono ?_
 rintro e w' ⟨m,lv,E,rfl,hg,hR,hc,hpr⟩
 have hi:IsE l l.base (fmtB l):=⟨hv,rfl,rfl⟩
 have hd:(⟨(fmtB l).toArray⟩:ByteArray).data.toList=fmtB l:=by simp
 rw [hd] at hpr
 have ho:=isE_ok hi
 have h1:m=l∧E=0:=by
  rcases hpr with ⟨h0,_⟩ | ⟨_,⟨h0,h2,h3⟩ | ⟨h0,h2,h3⟩⟩
  ·exfalso
   have:=okB_false ho
   rw [this] at h0
   cases h0
  ·exact⟨(h3 _ hi).symm,h0⟩
  ·exact absurd hi (h3 l)
 obtain⟨rfl,rfl⟩:=h1
 obtain⟨p,c,rfl,_⟩:=hR.evs.shape
 exact⟨p,c,rfl,hg,hR⟩
theorem lawEfm_walk (a:Option Addr) (cap:Nat) (xs:List Int) (raw:El) (rv:Value) (w:World) (hraw:ElR w rv raw) (hrc:∀ a n c,rv=.slice a n c→n≤c) (hA:TapeArg w a cap xs) (hPE:Pow w∧Er w) (hM:Mx w) :
  Calls Tryz.prog 9 #[raw.val rv,.slice a xs.length cap] w fun e w'=>e=.returned (.bool true)∧Gr w w':=by
 obtain⟨hP,hT⟩:=hPE
 refine lawEfm_core a cap xs raw rv w hraw hrc (Lib.hid fun w0 hg=>?_) (Lib.hid fun w' hg=>eawake_any w' (Pow.gr hg hP)) (Lib.hid fun l v w' hg hl=>?_)
 ·refine (emade_any a cap xs w0 (hA.gr hg)).mono ?_
  rintro e w' ⟨l,v,base,rfl,hg2,hR,hown,hb,hM⟩
  exact⟨l,v,rfl,hg2,hR,own_cap hown⟩
 ·cases hv:vEl l with
  | false=>exact⟨⟨#[]⟩,1,.inr rfl,fun w2 hg2=>eformat_no l v w2 (hl.gr hg2) hv,fun w2 hg2=>rformat30_no l v w2 (hl.gr hg2) hv,fun h=>by omega⟩
  | true=>exact⟨⟨(fmtB l).toArray⟩,0,.inl rfl,fun w2 hg2=>eformat_yes l v w2 (hl.gr hg2) hv (Pow.gr (hg.trans hg2) hP),fun w2 hg2=>rformat30_yes l v w2 (hl.gr hg2) hv,fun _=>⟨fun w2 hg2=>eParse_back l w2 hv (Pow.gr (hg.trans hg2) hP) (hT.gr (hg.trans hg2)) (hM.gr (hg.trans hg2)),fun w2 lv hg2 hlv=>rsame_true l lv v w2 hlv (hl.gr hg2)⟩⟩
end Go.Proofs.YtgbiodnfpbhjiaaGreatDoor

namespace Go.Proofs.YtgbiodnfpbhjiaaGreatDoor
open Go.ChangeShapes Go.WideShapes Go.ChangeAt Go.RowKit
set_option linter.unusedVariables false
theorem powTab:Rows.laid_internal_strconv_uint64pow10 (H:=Unit)=Lib.tabData .u64 Lib.pow10Tab:=by
 unfold Rows.laid_internal_strconv_uint64pow10 Lib.tabData Lib.pow10Tab
 simp [List.range,List.range.loop]
open Go.ChangeShapes Go.WideShapes Go.RowKit Go.Joins Go.Deep
theorem weightsAll_mem {H:Type} {P:Program} {e:TypeId}:∀ {ds:List (DataW H)} {d:DataW H},d∈ds→∀ n∈d.weights P e,n∈DataW.weightsAll P e ds
 | d0 :: ds,d,hd,n,hn=>by
  simp only [DataW.weightsAll,List.mem_append]
  rcases List.mem_cons.1 hd with rfl | h
  ·exact .inl hn
  ·exact .inr (weightsAll_mem h n hn)
theorem list_by {α:Type} {p:Nat→α→Prop}:∀ (n:Nat),(∀ i,i<n→∃ c,p i c)→∃ l:List α,l.length=n∧∀ (i:Nat) (hi:i<l.length),p i l[i]
 | 0,_=>⟨[],rfl,fun i hi=>by cases hi⟩
 | n+1,h=>by
  obtain⟨l,hl,hp⟩:=list_by n (fun i hi=>h i (by omega))
  obtain⟨c,hc⟩:=h n (by omega)
  refine⟨l ++ [c],by simp [hl],fun i hi=>?_⟩
  rcases Nat.lt_or_ge i l.length with h1 | h1
  ·rw [List.getElem_append_left h1];exact hp i h1
  ·have:i=n:=by simp at hi;omega
   subst this
   rw [List.getElem_append_right h1]
   simpa [hl] using hc
theorem cell_in {w:World} {a:Addr} {v:Value} (h:w.cell? a=some v):a.block<w.heap.size:=by
 unfold World.cell? at h
 cases hb:w.heap[a.block]? with
 | none=>rw [hb] at h;cases h
 | some b=>exact (Array.getElem?_eq_some_iff.1 hb).1
theorem rd_open {w:World} {a:Addr} {len cap size:Nat} {xs:List Value} (hs0:0<size) (hx:xs.length=len * size) (hc:∀ j u,xs[j]?=some u→w.cell? (a.add j)=some u):Rd w (.slice (some a) len cap) len size xs:=by
 refine⟨hx,some a,cap,rfl,?_⟩
 rcases Nat.eq_zero_or_pos len with h | h
 ·exact .inl ⟨h,fun h=>by cases h⟩
 have h0:0<xs.length:=by rw [hx];exact Nat.mul_pos h hs0
 have h1:=hc 0 xs[0] (by simp)
 rw [show a.add 0=a by simp [Addr.add]] at h1
 obtain⟨_,_,_,_,hs⟩:=World.shape?_of_cell? h1
 obtain⟨b,o,s⟩:=a
 simp at hs
 subst hs
 exact .inr ⟨b,o,rfl,cell_in h1,fun j u hj=>by simpa [Addr.add_lit] using hc j u hj⟩
section
variable {H:Type} {enc:TypeId × Value→H} {w:World} {base:Nat} {sp:Nat→Bool} {held:Bool} {fuel:Nat}
theorem strs_open {v:Value} {x:DataW H × List MemPlace} (h:DataW.trod enc Tryz.prog w base sp held fuel 43 [v]=some x) (hw:∀ n∈x.1.weights Tryz.prog 43,n≤reachBytes) :
  ∃ ss:List ByteArray,StrsR w v ss∧ss.length≤140737488355328∧∀ s∈ss,s.size≤140737488355328:=by
 rcases open_strings Tryz.underlying43 Tryz.underlying9 (by kernel_rfl) h with ⟨e,rfl⟩ | ⟨a,len,cap,ss,e,hb,hlc,hcm,hlen,rfl,hcell,_⟩
 ·simp at e;subst e
  exact⟨[],StrsR.nil w,by simp,fun s hs=>by cases hs⟩
 simp at e;subst e
 have hle:len≤ss.length:=by rw [hlen];split <;> omega
 have hz:(ss.take len).length=len:=by simp [hle]
 have hu:Tryz.prog.underlying 43=some (.slice 9):=Tryz.underlying43
 have hb16:Tryz.prog.bytesOf 9=16:=by kernel_rfl
 refine⟨ss.take len,?_,?_,?_⟩
 ·unfold StrsR
  rw [hz]
  refine rd_open (by omega) (by simp [hle]) fun j u hj=>?_
  have hj2:j<len:=by
   have:=(List.getElem?_eq_some_iff.1 hj).1
   simp at this;omega
  have h2:=hcell j (by omega)
  rw [h2]
  rw [List.getElem?_map,List.getElem?_take,if_pos hj2,List.getElem?_eq_getElem (show j<ss.length by omega)] at hj
  simp at hj
  rw [List.getD_eq_getElem?_getD,List.getElem?_eq_getElem (show j<ss.length by omega)]
  simp [hj]
 ·rw [hz]
  have:=hw ((strs (H:=H) (ss.take len)).length * 16+(strs (H:=H) (ss.drop len)).length * 16) (by
   simp only [DataW.weights,hu,hb16,Nat.add_mul]
   exact List.mem_cons_self ..)
  unfold reachBytes strs at this
  simp at this
  omega
 ·intro s hs
  have:=hw s.size (by
   simp only [DataW.weights,hu]
   refine List.mem_cons_of_mem _ (List.mem_append_left _ (weightsAll_mem (d:=.lit (.string s.data.toList)) ?_ _ (by simp [DataW.weights])))
   unfold strs
   exact List.mem_map.2 ⟨s,hs,rfl⟩)
  unfold reachBytes at this
  omega
theorem ints_open {v:Value} {x:DataW H × List MemPlace} (h:DataW.trod enc Tryz.prog w base sp held fuel 25 [v]=some x) (hw:∀ n∈x.1.weights Tryz.prog 25,n≤reachBytes) :
  ∃ (a:Option Addr) (cap:Nat) (xs:List Int),v=.slice a xs.length cap∧TapeArg w a cap xs:=by
 rcases open_ints Tryz.underlying25 Tryz.underlying3 (by kernel_rfl) h with ⟨e,rfl⟩ | ⟨a,len,cap,zs,e,hb,hlc,hcm,hlen,rfl,hcell,hwf⟩
 ·simp at e;subst e
  exact⟨none,0,[],rfl,⟨Rd.nil w 1,fun s hs=>(by cases hs),by simp⟩⟩
 simp at e;subst e
 have hle:len≤zs.length:=by rw [hlen];split <;> omega
 have hz:(zs.take len).length=len:=by simp [hle]
 have hu:Tryz.prog.underlying 25=some (.slice 3):=Tryz.underlying25
 have hb8:Tryz.prog.bytesOf 3=8:=by kernel_rfl
 refine⟨some a,cap,zs.take len,by rw [hz],?_,?_,?_⟩
 ·rw [hz]
  refine rd_open (by omega) (by simp [hle]) fun j u hj=>?_
  have hj2:j<len:=by
   have:=(List.getElem?_eq_some_iff.1 hj).1
   simp at this;omega
  have h2:=hcell j (by omega)
  rw [h2]
  rw [List.getElem?_map,List.getElem?_take,if_pos hj2,List.getElem?_eq_getElem (show j<zs.length by omega)] at hj
  simp at hj
  rw [List.getD_eq_getElem?_getD,List.getElem?_eq_getElem (show j<zs.length by omega)]
  simp [hj]
 ·intro n hn
  have:=hwf n (List.mem_of_mem_take hn)
  simp [Lit.wf,IntKind.min,IntKind.max,IntKind.signed,IntKind.bits] at this
  omega
 ·rw [hz]
  have:=hw ((lits (H:=H) .i64 (zs.take len)).length * 8+(lits (H:=H) .i64 (zs.drop len)).length * 8) (by
   simp only [DataW.weights,hu,hb8,Nat.add_mul]
   exact List.mem_cons_self ..)
  unfold reachBytes lits at this
  simp at this
  omega
theorem cues_open {v:Value} {x:DataW H × List MemPlace} (h:DataW.trod enc Tryz.prog w base sp held fuel 115 [v]=some x) (hw:∀ n∈x.1.weights Tryz.prog 115,n≤reachBytes) :
  ∃ cs:List Cu,Cues w v cs:=by
 have hu:Tryz.prog.underlying 115=some (.slice 261):=Tryz.underlying115
 have hb40:Tryz.prog.bytesOf 261=40:=by kernel_rfl
 have hc3:Tryz.prog.cellsOf 261=3:=by kernel_rfl
 rcases open_slice hu h with ⟨e,rfl⟩ | ⟨a,len,cap,m,n,D,Pl,e,hb,hlc,hcm,hm,rfl,hel⟩
 ·simp at e;subst e
  exact⟨[],CuesR.nil w,fun c hc=>(by cases hc),by simp⟩
 simp at e;subst e
 have hle:len≤m:=by rw [hm];split <;> omega
 rw [hc3] at hel
 have each:∀ i,i<len→∃ c:Cu,(w.cell? (a.add (i * 3))=some (.int .i64 c.f)∧w.cell? (a.add (i * 3+1))=some (.int .i64 c.t)∧w.cell? (a.add (i * 3+2))=some c.lv)∧StrsR w c.lv c.ss∧CuOk c:=by
  intro i hi
  obtain⟨cs',h1,h2⟩:=hel i (by omega)
  obtain⟨_,hl3,hce⟩:=World.cells?_some h1
  match cs',hl3 with
  | [c0,c1,c2],_=>
  obtain⟨y0,y1,y2,n',ey,_,t0,t1,t2⟩:=trod_struct3 Tryz.underlying261 h2
  have k1:Tryz.prog.cellsOf 2=1:=by kernel_rfl
  have k2:Tryz.prog.cellsOf 43=1:=by kernel_rfl
  simp [k1,k2] at t0 t1 t2
  obtain⟨n0,e0,_,w0⟩:=DataW.trod_int Tryz.underlying2 t0
  obtain⟨n1,e1,_,w1⟩:=DataW.trod_int Tryz.underlying2 t1
  simp at e0 e1
  subst e0 e1
  obtain⟨ss,hS,hsn,hss⟩:=strs_open t2 (by
   intro q hq
   refine hw q ?_
   simp only [DataW.weights,hu]
   refine List.mem_cons_of_mem _ (List.mem_append_left _ (weightsAll_mem (d:=D i) (List.mem_map.2 ⟨i,by simpa using hi,rfl⟩) _ ?_))
   have hD:D i=.agg [y0.1,y1.1,y2.1]:=congrArg Prod.fst ey
   rw [hD]
   have hu2:Tryz.prog.underlying 261=_:=Tryz.underlying261
   simp only [DataW.weights,hu2]
   exact DataW.weights_mem_each (j:=2) rfl rfl q hq)
  have g0:=hce 0 (by omega)
  have g1:=hce 1 (by omega)
  have g2:=hce 2 (by omega)
  rw [add_add] at g0 g1 g2
  simp at g0 g1 g2
  simp [Lit.wf,IntKind.min,IntKind.max,IntKind.signed,IntKind.bits] at w0 w1
  exact⟨⟨n0,n1,c2,ss⟩,⟨g0,g1,g2⟩,hS,⟨by show _≤n0;omega,by show n0≤_;omega,by show _≤n1;omega,by show n1≤_;omega,hsn,hss⟩⟩
 obtain⟨cs,hcl,hcs⟩:=list_by len each
 refine⟨cs,⟨?_,fun c hc=>?_⟩,fun c hc=>?_,?_⟩
 ·rw [hcl]
  refine rd_open (by omega) (by rw [flat_length,hcl]) fun j u hj=>?_
  have hj2:j<cs.length * 3:=by
   have:=(List.getElem?_eq_some_iff.1 hj).1
   rwa [flat_length] at this
  have hi:j / 3<cs.length:=by omega
  have hf:=flat_at cs (j / 3) hi
  have hp:=(hcs (j / 3) hi).1
  rcases (show j=j / 3 * 3∨j=j / 3 * 3+1∨j=j / 3 * 3+2 by omega) with h0 | h0 | h0
  ·rw [h0] at hj ⊢
   rw [hf.1] at hj
   rw [hp.1];exact hj
  ·rw [h0] at hj ⊢
   rw [hf.2.1] at hj
   rw [hp.2.1];exact hj
  ·rw [h0] at hj ⊢
   rw [hf.2.2] at hj
   rw [hp.2.2];exact hj
 ·obtain⟨i,hi,rfl⟩:=List.getElem_of_mem hc
  exact (hcs i hi).2.1
 ·obtain⟨i,hi,rfl⟩:=List.getElem_of_mem hc
  exact (hcs i hi).2.2
 ·have:=hw (((List.range len).map D).length * 40+((List.range (m - len)).map fun j=>D (len+j)).length * 40) (by
   simp only [DataW.weights,hu,hb40,Nat.add_mul]
   exact List.mem_cons_self ..)
  unfold reachBytes at this
  simp at this
  omega
end
theorem weight_at {H:Type} {P:Program} {ts:List TypeId} {ds:List (DataW H)} (h:(DataW.weightsEach P ts ds).all (·≤reachBytes)=true) (j:Nat) {t:TypeId} {d:DataW H} (ht:ts[j]?=some t) (hd:ds[j]?=some d):∀ n∈d.weights P t,n≤reachBytes:=by
 intro n hn
 simpa using List.all_eq_true.1 h _ (DataW.weights_mem_each ht hd n hn)
open Go.ChangeShapes Go.WideShapes Go.ChangeAt Go.RowKit Go.Joins Go.Deep
theorem list_of4 {α:Type}:∀ {l:List α},l.length=4→∃ x0 x1 x2 x3,l=[x0,x1,x2,x3]
 | [x0,x1,x2,x3],_=>⟨x0,x1,x2,x3,rfl⟩
theorem list_of8 {α:Type}:∀ {l:List α},l.length=8→∃ x0 x1 x2 x3 x4 x5 x6 x7,l=[x0,x1,x2,x3,x4,x5,x6,x7]
 | [x0,x1,x2,x3,x4,x5,x6,x7],_=>⟨x0,x1,x2,x3,x4,x5,x6,x7,rfl⟩
theorem open_fields {H:Type} {enc:TypeId × Value→H} {P:Program} {w:World} {base:Nat} {spare:Nat→Bool} {held:Bool} {r:Reach} {b0:Nat} {t:TypeId} {fs:Array Field} {v:Value} {d:DataW H} {p:List MemPlace} (N:Nat) (hN:fs.size=N)
  (hs:P.underlying t=some (.struct fs)) (hone:oneCellFields P fs=true) (hC:P.cellsOf t=N) (hv:Value.okWide P w r b0 t v) (h:DataW.Trod enc P w base spare held t v d p) :
  ∃ (vs:List Value) (ys:List (DataW H × List MemPlace)) (n:Nat),v=.agg vs.toArray∧vs.length=N∧ys.length=N∧d=.agg (ys.map (·.1))∧p=ys.flatMap (·.2) ∧
   ∀ (i:Nat) (f:Field) (c:Value) (y:DataW H × List MemPlace),fs[i]?=some f→vs[i]?=some c→ys[i]?=some y→DataW.trod enc P w base spare held n f.type [c]=some y:=by
 obtain⟨cs,rfl,hsz⟩:=okWide_struct hs hv
 obtain⟨fuel,hf⟩:=h
 obtain⟨ys,n,_,hx,_,hlen,hg⟩:=DataW.trod_struct hs hf
 simp only [Prod.mk.injEq] at hx
 refine⟨cs.toList,ys,n,by simp,by simpa using hsz.trans hC,hlen.trans hN,hx.1,hx.2,fun i f c y hi hc hy=>?_⟩
 obtain⟨o,k⟩:=hone_of hone i f hi
 rw [← hy,← hg i f hi,o,k]
 obtain⟨hlt,he⟩:=List.getElem?_eq_some_iff.1 hc
 congr 1
 simp only [Value.cells]
 rw [List.drop_eq_getElem_cons hlt,he]
 simp
section
variable {H:Type} {enc:TypeId × Value→H} {P:Program} {w:World} {base:Nat} {sp:Nat→Bool} {held:Bool} {fuel:Nat}
theorem trod_fields {t:TypeId} {fs:Array Field} {cs:List Value} {x:DataW H × List MemPlace} (N:Nat) (hN:fs.size=N) (hs:P.underlying t=some (.struct fs)) (hone:oneCellFields P fs=true)
  (h:DataW.trod enc P w base sp held fuel t cs=some x) :
  ∃ (ys:List (DataW H × List MemPlace)) (n:Nat),x=(.agg (ys.map (·.1)),ys.flatMap (·.2))∧ys.length=N ∧
   ∀ (i:Nat) (f:Field) (c:Value) (y:DataW H × List MemPlace),fs[i]?=some f→cs[i]?=some c→ys[i]?=some y→DataW.trod enc P w base sp held n f.type [c]=some y:=by
 obtain⟨ys,n,_,hx,_,hlen,hg⟩:=DataW.trod_struct hs h
 refine⟨ys,n,hx,hlen.trans hN,fun i f c y hi hc hy=>?_⟩
 obtain⟨o,k⟩:=hone_of hone i f hi
 rw [← hy,← hg i f hi,o,k]
 obtain⟨hlt,he⟩:=List.getElem?_eq_some_iff.1 hc
 congr 1
 rw [List.drop_eq_getElem_cons hlt,he]
 simp
end
section
variable {H:Type} {enc:TypeId × Value→H} {w:World} {base:Nat} {sp:Nat→Bool} {held:Bool} {fuel:Nat}
theorem evs_open {v:Value} {x:DataW H × List MemPlace} (h:DataW.trod enc Tryz.prog w base sp held fuel 22 [v]=some x) (hw:∀ n∈x.1.weights Tryz.prog 22,n≤reachBytes) :
  ∃ es:List Ev,EvsR w v es∧(∀ e∈es,e.reel.size≤140737488355328)∧es.length≤140737488355328:=by
 have hu:Tryz.prog.underlying 22=some (.slice 30):=Tryz.underlying22
 have hb72:Tryz.prog.bytesOf 30=72:=by kernel_rfl
 have hc8:Tryz.prog.cellsOf 30=8:=by kernel_rfl
 rcases open_slice hu h with ⟨e,rfl⟩ | ⟨a,len,cap,m,n,D,Pl,e,hb,hlc,hcm,hm,rfl,hel⟩
 ·simp at e;subst e
  exact⟨[],EvsR.nil w,fun c hc=>(by cases hc),by simp⟩
 simp at e;subst e
 have hle:len≤m:=by rw [hm];split <;> omega
 rw [hc8] at hel
 have each:∀ i,i<len→∃ e:Ev,(∀ j u,e.cells[j]?=some u→w.cell? (a.add (i * 8+j))=some u)∧e.reel.size≤140737488355328:=by
  intro i hi
  obtain⟨cs',h1,h2⟩:=hel i (by omega)
  obtain⟨_,hl8,hce⟩:=World.cells?_some h1
  obtain⟨c0,c1,c2,c3,c4,c5,c6,c7,rfl⟩:=list_of8 hl8
  obtain⟨ys,n',ey,hl,hf⟩:=trod_fields 8 rfl Tryz.underlying30 (by kernel_rfl) h2
  obtain⟨y0,y1,y2,y3,y4,y5,y6,y7,rfl⟩:=list_of8 hl
  obtain⟨n0,e0,_,_⟩:=DataW.trod_int Tryz.underlying3 (hf 0 _ _ _ rfl rfl rfl)
  obtain⟨n1,e1,_,_⟩:=DataW.trod_int Tryz.underlying3 (hf 1 _ _ _ rfl rfl rfl)
  obtain⟨n2,e2,_,_⟩:=DataW.trod_int Tryz.underlying2 (hf 2 _ _ _ rfl rfl rfl)
  obtain⟨s3,e3,q3,_⟩:=DataW.trod_string Tryz.underlying9 (hf 3 _ _ _ rfl rfl rfl)
  obtain⟨n4,e4,_,_⟩:=DataW.trod_int Tryz.underlying2 (hf 4 _ _ _ rfl rfl rfl)
  obtain⟨n5,e5,_,_⟩:=DataW.trod_int Tryz.underlying2 (hf 5 _ _ _ rfl rfl rfl)
  obtain⟨n6,e6,_,_⟩:=DataW.trod_int Tryz.underlying2 (hf 6 _ _ _ rfl rfl rfl)
  obtain⟨n7,e7,_,_⟩:=DataW.trod_int Tryz.underlying2 (hf 7 _ _ _ rfl rfl rfl)
  simp at e0 e1 e2 e3 e4 e5 e6 e7
  subst e0 e1 e2 e3 e4 e5 e6 e7
  refine⟨⟨n0,n1,n2,s3,n4,n5,n6,n7⟩,fun j u hu'=>?_,?_⟩
  ·have hj:j<8:=(List.getElem?_eq_some_iff.1 hu').1
   have:=hce j (by omega)
   rw [add_add] at this
   rw [this]
   exact hu'
  ·show s3.size≤_
   have:=hw s3.size (by
    simp only [DataW.weights,hu]
    refine List.mem_cons_of_mem _ (List.mem_append_left _ (weightsAll_mem (d:=D i) (List.mem_map.2 ⟨i,by simpa using hi,rfl⟩) _ ?_))
    have hD:D i=_:=congrArg Prod.fst ey
    rw [hD]
    have hu2:Tryz.prog.underlying 30=_:=Tryz.underlying30
    simp only [DataW.weights,hu2]
    refine DataW.weights_mem_each (j:=3) rfl rfl _ ?_
    simp [q3,DataW.weights])
   unfold reachBytes at this
   omega
 obtain⟨es,hcl,hcs⟩:=list_by len each
 refine⟨es,?_,fun c hc=>?_,?_⟩
 ·unfold EvsR
  rw [hcl]
  refine rd_open (by omega) (by rw [eflat_length,hcl]) fun j u hj=>?_
  have hj2:j<es.length * 8:=by
   have:=(List.getElem?_eq_some_iff.1 hj).1
   rwa [eflat_length] at this
  have hi:j / 8<es.length:=by omega
  have hj8:j % 8<8:=Nat.mod_lt _ (by omega)
  have he:j=j / 8 * 8+j % 8:=by omega
  rw [he] at hj ⊢
  rw [eflat_at es (j / 8) hi (j % 8) hj8] at hj
  exact (hcs (j / 8) hi).1 _ _ hj
 ·obtain⟨i,hi,rfl⟩:=List.getElem_of_mem hc
  exact (hcs i hi).2
 ·have:=hw (((List.range len).map D).length * 72+((List.range (m - len)).map fun j=>D (len+j)).length * 72) (by
   simp only [DataW.weights,hu,hb72,Nat.add_mul]
   exact List.mem_cons_self ..)
  unfold reachBytes at this
  simp at this
  omega
end
section
variable {H:Type} {enc:TypeId × Value→H} {P:Program} {w:World} {base:Nat} {sp:Nat→Bool} {held:Bool} {fuel:Nat}
end
section
variable {H:Type} {enc:TypeId × Value→H} {w:World} {base:Nat} {sp:Nat→Bool} {held:Bool} {fuel:Nat}
end
open Go.ChangeShapes Go.WideShapes Go.ChangeAt Go.RowKit Go.Joins
theorem own:ownKnob Tryz.prog.godebug=none:=by kernel_rfl
theorem laidOut:laidOutB Tryz.prog=true:=by kernel_rfl
theorem trodAll_below {H:Type} {enc:TypeId × Value→H} {P:Program} (hl:laidOutB P=true) {W W':World} (hb:Below W.heap.size W W') :
  ∀ (ts:List TypeId) (vs:List Value) (ds:List (DataW H)) (ps:List MemPlace),ts.all (fun t=>P.readableRec t && decide (t<P.types.size))=true →
   (∀ x∈ps,x.block<W.heap.size)→DataW.TrodAll enc P W 0 (fun _=>true) true ts vs ds ps→DataW.TrodAll enc P W' 0 (fun b=>decide (b<W.heap.size)) true ts vs ds ps
 | [],vs,ds,ps,_,_,h=>by
  obtain⟨rfl,rfl,rfl⟩:=trodAll_nil h
  exact trodAll_mk0
 | t :: ts,vs,ds,ps,ht,hlt,h=>by
  obtain⟨v,vs',d,ds',p,q,rfl,rfl,rfl,h1,h2⟩:=trodAll_cons h
  simp only [List.all_cons,Bool.and_eq_true,decide_eq_true_eq] at ht
  exact trodAll_cons_mk (Below.trod hl ht.1.1 ht.1.2 h1 hb fun x hx=>hlt x (List.mem_append.2 (.inl hx)))
   (trodAll_below hl hb ts vs' ds' q ht.2 (fun x hx=>hlt x (List.mem_append.2 (.inr hx))) h2)
theorem law_post {H:Type} {enc:TypeId × Value→H} {P:Program} {f:Func} {s:ChangeSpec} {W W':World} {args:Array Value} {ds gs:List (DataW H)} {before:List MemPlace} (tb:TypeId)
  (hl:laidOutB P=true) (hp:f.params.toList.all (fun t=>P.readableRec t && decide (t<P.types.size))=true) (hr:f.resultTypes=#[tb]) (hb:P.underlying tb=some .bool) (hv:s.vars=[])
  (h1:(s.fn H (ds ++ gs)).results=[.lit (.bool true)]) (h2:(s.fn H (ds ++ gs)).args=ds) (h3:(s.fn H (ds ++ gs)).vars=[])
  (hW:DataW.Whole enc P f.params.toList s.vars false W args.toList ds gs before) (hg:Below W.heap.size W W'):s.post enc P f false true false false W args (.bool true) W':=by
 have hlt:∀ p∈before,p.block<W.heap.size:=fun p hp=>hW.lt p hp
 have hW':=hW
 obtain⟨p,q,hA,hV,rfl,_,_⟩:=hW
 refine⟨ds,gs,p ++ q,[],p,[],hW',?_,?_,?_,hg.frame _,fun h=>by cases h⟩
 ·rw [h1,hr]
  exact trodAll_mk1 (shut_bool hb _)
 ·rw [h2]
  exact trodAll_below hl hg _ _ _ _ hp (fun x hx=>hlt x (List.mem_append.2 (.inl hx))) hA
 ·rw [h3,hv]
  rfl
end Go.Proofs.YtgbiodnfpbhjiaaGreatDoor

namespace Go.Proofs.YtgbiodnfpbhjiaaGreatDoor
open Go.ChangeShapes Go.WideShapes Go.ChangeAt Go.RowKit
set_option linter.unusedVariables false
def laid30e:List (String × DataW Unit):=[("math/bits.deBruijn32tab",Rows.laid_math_bits_deBruijn32tab),("math/bits.deBruijn64tab",Rows.laid_math_bits_deBruijn64tab),("internal/strconv.uint64pow10",Rows.laid_internal_strconv_uint64pow10),("unicode/utf8.acceptRanges",Rows.laid_unicode_utf8_acceptRanges),("strconv.ErrRange",Rows.laid_strconv_ErrRange),("strconv.ErrSyntax",Rows.laid_strconv_ErrSyntax),("unicode/utf8.first",Rows.laid_unicode_utf8_first)]
theorem laid30e_met (os:Os) (args:Array Value):laidMetH Tryz.prog laid30e ((World.laidAll Tryz.prog os laid30e).forCall (fun _ _=>0) ⟨#[],args,[]⟩).memory:=by
 rw [MakeChecks.laidMetH_plain _ _ _ (by kernel_rfl)]
 exact laidMet_laidAll _ (by kernel_rfl) (by kernel_rfl)
theorem iface_head {P:Program} {n nm:String} {d:DataW Unit} {r:List (String × DataW Unit)} {W:World} {g:Nat} {ti:TypeId} {ms:Array (String × TypeId)}
  (hg:P.globalNamed n=some g) (ht:(P.globals[g]?).map (·.type)=some ti) (hi:P.underlying ti=some (.interface ms)) (h:laidMet P ((n,.iface nm d) :: r) W):∃ tp p,W.var? P n=some #[.iface tp p]:=by
 obtain⟨ps,⟨g0,t0,cs0,f0,p0,q0,hg0,ht0,hv0,hd0,_,e0⟩,_,_⟩:=h
 obtain rfl:=Option.some.inj (hg.symm.trans hg0)
 obtain rfl:=Option.some.inj (ht.symm.trans ht0)
 obtain⟨l0⟩:=cs0
 obtain⟨f1,u,v,e,_⟩:=iface_of_trod hi hd0
 simp only at e
 exact⟨u,v,by rw [hv0,e]⟩
theorem text_of_laid {W:World} (h:laidMetH Tryz.prog laid30e W):Pow W∧Er W:=by
 rw [MakeChecks.laidMetH_plain _ _ _ (by kernel_rfl)] at h
 have h3:=laidMet.tail (laidMet.tail h)
 have h4:=laidMet.tail (laidMet.tail h3)
 have h5:=laidMet.tail h4
 exact⟨Lib.tabIs_of_head (g:=1) (by kernel_rfl) (by kernel_rfl) Tryz.underlying278 Tryz.underlying114 (by kernel_rfl) (by kernel_rfl) (by rw [← powTab];exact h3),
  iface_head (g:=2) (by kernel_rfl) (by kernel_rfl) Tryz.underlying145 h5,iface_head (g:=3) (by kernel_rfl) (by kernel_rfl) Tryz.underlying145 h4⟩
end Go.Proofs.YtgbiodnfpbhjiaaGreatDoor
