/-
  What the rows' condition on the laid variables gives a walk of chapter 30.
  Conditions: none.
-/
import Derived.Test.YtgbiodnfpbhjiaaGreatDoorRows
import Derived.Test.YtgbiodnfpbhjiaaGreatDoorFint
import Derived.ProofKit
import Derived.LaidMore
import Derived.LaidOnce
import Derived.Stop.LaidErr
import Derived.Test.YtgbiodnfpbhjiaaGreatDoorKit
import Derived.Lib.SmallJoins
import Derived.Test.YtgbiodnfpbhjiaaGreatDoorWalkVa
import Derived.Test.YtgbiodnfpbhjiaaGreatDoorWalkTp
import Derived.Deep.Slices
import Derived.Deep.Strs
import Derived.SliceStrings
import Derived.ChangeSlices
import Derived.SizedLaws
import Derived.Laws.LoneSync
import Derived.Test.YtgbiodnfpbhjiaaGreatDoorWalkEe
import Derived.Test.YtgbiodnfpbhjiaaGreatDoorWalkTm
import Derived.OpenShut
import Derived.Carry
namespace Go.Proofs.YtgbiodnfpbhjiaaGreatDoor
open Go.ChangeShapes Go.WideShapes Go.ChangeAt Go.RowKit
set_option linter.unusedVariables false
def laid30:List (String × DataW Unit):=[("math/bits.deBruijn32tab",Rows.laid_math_bits_deBruijn32tab),("math/bits.deBruijn64tab",Rows.laid_math_bits_deBruijn64tab),("internal/strconv.uint64pow10",Rows.laid_internal_strconv_uint64pow10)]
theorem laid30_met (os:Os) (args:Array Value):laidMetH Tryz.prog laid30 ((World.doorLaid Tryz.prog 72 os).forCall (fun _ _=>0) ⟨#[],args,[]⟩).memory:=
 laidMetH_of_parts3 (fuel:=8) (laidMet_of_run' 8 (by kernel_rfl) (by kernel_rfl)) (by kernel_rfl) (by kernel_rfl)
theorem powTab:Rows.laid_internal_strconv_uint64pow10 (H:=Unit)=Lib.tabData .u64 Lib.pow10Tab:=by
 unfold Rows.laid_internal_strconv_uint64pow10 Lib.tabData Lib.pow10Tab
 simp [List.range,List.range.loop]
theorem pow_of_laid {W:World} (h:laidMetH Tryz.prog laid30 W):Pow W:=by
 rw [MakeChecks.laidMetH_plain _ _ _ (by kernel_rfl)] at h
 exact Lib.tabIs_of_head (g:=1) (by kernel_rfl) (by kernel_rfl) Tryz.underlying278 Tryz.underlying114 (by kernel_rfl) (by kernel_rfl) (by rw [← powTab];exact laidMet.tail (laidMet.tail h))
open Go.ChangeShapes Go.WideShapes Go.RowKit Go.Joins Go.Deep
theorem weightsAll_mem {H:Type} {P:Program} {e:TypeId}:∀ {ds:List (DataW H)} {d:DataW H},d∈ds→∀ n∈d.weights P e,n∈DataW.weightsAll P e ds
 | d0 :: ds,d,hd,n,hn=>by
  simp only [DataW.weightsAll,List.mem_append]
  rcases List.mem_cons.1 hd with rfl | h
  ·exact .inl hn
  ·exact .inr (weightsAll_mem h n hn)
theorem list_by {α:Type} {p:Nat→α→Prop}:∀ (n:Nat),(∀ i,i<n→∃ c,p i c)→∃ l:List α,l.length=n∧∀ (i:Nat) (hi:i<l.length),p i l[i]
 | 0,_=>⟨[],rfl,fun i hi=>by cases hi⟩
 | n+1,h=>by
  obtain⟨l,hl,hp⟩:=list_by n (fun i hi=>h i (by omega))
  obtain⟨c,hc⟩:=h n (by omega)
  refine⟨l ++ [c],by simp [hl],fun i hi=>?_⟩
  rcases Nat.lt_or_ge i l.length with h1 | h1
  ·rw [List.getElem_append_left h1];exact hp i h1
  ·have:i=n:=by simp at hi;omega
   subst this
   rw [List.getElem_append_right h1]
   simpa [hl] using hc
theorem cell_in {w:World} {a:Addr} {v:Value} (h:w.cell? a=some v):a.block<w.heap.size:=by
 unfold World.cell? at h
 cases hb:w.heap[a.block]? with
 | none=>rw [hb] at h;cases h
 | some b=>exact (Array.getElem?_eq_some_iff.1 hb).1
theorem rd_open {w:World} {a:Addr} {len cap size:Nat} {xs:List Value} (hs0:0<size) (hx:xs.length=len * size) (hc:∀ j u,xs[j]?=some u→w.cell? (a.add j)=some u):Rd w (.slice (some a) len cap) len size xs:=by
 refine⟨hx,some a,cap,rfl,?_⟩
 rcases Nat.eq_zero_or_pos len with h | h
 ·exact .inl ⟨h,fun h=>by cases h⟩
 have h0:0<xs.length:=by rw [hx];exact Nat.mul_pos h hs0
 have h1:=hc 0 xs[0] (by simp)
 rw [show a.add 0=a by simp [Addr.add]] at h1
 obtain⟨_,_,_,_,hs⟩:=World.shape?_of_cell? h1
 obtain⟨b,o,s⟩:=a
 simp at hs
 subst hs
 exact .inr ⟨b,o,rfl,cell_in h1,fun j u hj=>by simpa [Addr.add_lit] using hc j u hj⟩
section
variable {H:Type} {enc:TypeId × Value→H} {w:World} {base:Nat} {sp:Nat→Bool} {held:Bool} {fuel:Nat}
theorem strs_open {v:Value} {x:DataW H × List MemPlace} (h:DataW.trod enc Tryz.prog w base sp held fuel 43 [v]=some x) (hw:∀ n∈x.1.weights Tryz.prog 43,n≤reachBytes) :
  ∃ ss:List ByteArray,StrsR w v ss∧ss.length≤140737488355328∧∀ s∈ss,s.size≤140737488355328:=by
 rcases open_strings Tryz.underlying43 Tryz.underlying9 (by kernel_rfl) h with ⟨e,rfl⟩ | ⟨a,len,cap,ss,e,hb,hlc,hcm,hlen,rfl,hcell,_⟩
 ·simp at e;subst e
  exact⟨[],StrsR.nil w,by simp,fun s hs=>by cases hs⟩
 simp at e;subst e
 have hle:len≤ss.length:=by rw [hlen];split <;> omega
 have hz:(ss.take len).length=len:=by simp [hle]
 have hu:Tryz.prog.underlying 43=some (.slice 9):=Tryz.underlying43
 have hb16:Tryz.prog.bytesOf 9=16:=by kernel_rfl
 refine⟨ss.take len,?_,?_,?_⟩
 ·unfold StrsR
  rw [hz]
  refine rd_open (by omega) (by simp [hle]) fun j u hj=>?_
  have hj2:j<len:=by
   have:=(List.getElem?_eq_some_iff.1 hj).1
   simp at this;omega
  have h2:=hcell j (by omega)
  rw [h2]
  rw [List.getElem?_map,List.getElem?_take,if_pos hj2,List.getElem?_eq_getElem (show j<ss.length by omega)] at hj
  simp at hj
  rw [List.getD_eq_getElem?_getD,List.getElem?_eq_getElem (show j<ss.length by omega)]
  simp [hj]
 ·rw [hz]
  have:=hw ((strs (H:=H) (ss.take len)).length * 16+(strs (H:=H) (ss.drop len)).length * 16) (by
   simp only [DataW.weights,hu,hb16,Nat.add_mul]
   exact List.mem_cons_self ..)
  unfold reachBytes strs at this
  simp at this
  omega
 ·intro s hs
  have:=hw s.size (by
   simp only [DataW.weights,hu]
   refine List.mem_cons_of_mem _ (List.mem_append_left _ (weightsAll_mem (d:=.lit (.string s.data.toList)) ?_ _ (by simp [DataW.weights])))
   unfold strs
   exact List.mem_map.2 ⟨s,hs,rfl⟩)
  unfold reachBytes at this
  omega
theorem ints_open {v:Value} {x:DataW H × List MemPlace} (h:DataW.trod enc Tryz.prog w base sp held fuel 25 [v]=some x) (hw:∀ n∈x.1.weights Tryz.prog 25,n≤reachBytes) :
  ∃ (a:Option Addr) (cap:Nat) (xs:List Int),v=.slice a xs.length cap∧TapeArg w a cap xs:=by
 rcases open_ints Tryz.underlying25 Tryz.underlying3 (by kernel_rfl) h with ⟨e,rfl⟩ | ⟨a,len,cap,zs,e,hb,hlc,hcm,hlen,rfl,hcell,hwf⟩
 ·simp at e;subst e
  exact⟨none,0,[],rfl,⟨Rd.nil w 1,fun s hs=>(by cases hs),by simp⟩⟩
 simp at e;subst e
 have hle:len≤zs.length:=by rw [hlen];split <;> omega
 have hz:(zs.take len).length=len:=by simp [hle]
 have hu:Tryz.prog.underlying 25=some (.slice 3):=Tryz.underlying25
 have hb8:Tryz.prog.bytesOf 3=8:=by kernel_rfl
 refine⟨some a,cap,zs.take len,by rw [hz],?_,?_,?_⟩
 ·rw [hz]
  refine rd_open (by omega) (by simp [hle]) fun j u hj=>?_
  have hj2:j<len:=by
   have:=(List.getElem?_eq_some_iff.1 hj).1
   simp at this;omega
  have h2:=hcell j (by omega)
  rw [h2]
  rw [List.getElem?_map,List.getElem?_take,if_pos hj2,List.getElem?_eq_getElem (show j<zs.length by omega)] at hj
  simp at hj
  rw [List.getD_eq_getElem?_getD,List.getElem?_eq_getElem (show j<zs.length by omega)]
  simp [hj]
 ·intro n hn
  have:=hwf n (List.mem_of_mem_take hn)
  simp [Lit.wf,IntKind.min,IntKind.max,IntKind.signed,IntKind.bits] at this
  omega
 ·rw [hz]
  have:=hw ((lits (H:=H) .i64 (zs.take len)).length * 8+(lits (H:=H) .i64 (zs.drop len)).length * 8) (by
   simp only [DataW.weights,hu,hb8,Nat.add_mul]
   exact List.mem_cons_self ..)
  unfold reachBytes lits at this
  simp at this
  omega
theorem cues_open {v:Value} {x:DataW H × List MemPlace} (h:DataW.trod enc Tryz.prog w base sp held fuel 115 [v]=some x) (hw:∀ n∈x.1.weights Tryz.prog 115,n≤reachBytes) :
  ∃ cs:List Cu,Cues w v cs:=by
 have hu:Tryz.prog.underlying 115=some (.slice 261):=Tryz.underlying115
 have hb40:Tryz.prog.bytesOf 261=40:=by kernel_rfl
 have hc3:Tryz.prog.cellsOf 261=3:=by kernel_rfl
 rcases open_slice hu h with ⟨e,rfl⟩ | ⟨a,len,cap,m,n,D,Pl,e,hb,hlc,hcm,hm,rfl,hel⟩
 ·simp at e;subst e
  exact⟨[],CuesR.nil w,fun c hc=>(by cases hc),by simp⟩
 simp at e;subst e
 have hle:len≤m:=by rw [hm];split <;> omega
 rw [hc3] at hel
 have each:∀ i,i<len→∃ c:Cu,(w.cell? (a.add (i * 3))=some (.int .i64 c.f)∧w.cell? (a.add (i * 3+1))=some (.int .i64 c.t)∧w.cell? (a.add (i * 3+2))=some c.lv)∧StrsR w c.lv c.ss∧CuOk c:=by
  intro i hi
  obtain⟨cs',h1,h2⟩:=hel i (by omega)
  obtain⟨_,hl3,hce⟩:=World.cells?_some h1
  match cs',hl3 with
  | [c0,c1,c2],_=>
  obtain⟨y0,y1,y2,n',ey,_,t0,t1,t2⟩:=trod_struct3 Tryz.underlying261 h2
  have k1:Tryz.prog.cellsOf 2=1:=by kernel_rfl
  have k2:Tryz.prog.cellsOf 43=1:=by kernel_rfl
  simp [k1,k2] at t0 t1 t2
  obtain⟨n0,e0,_,w0⟩:=DataW.trod_int Tryz.underlying2 t0
  obtain⟨n1,e1,_,w1⟩:=DataW.trod_int Tryz.underlying2 t1
  simp at e0 e1
  subst e0 e1
  obtain⟨ss,hS,hsn,hss⟩:=strs_open t2 (by
   intro q hq
   refine hw q ?_
   simp only [DataW.weights,hu]
   refine List.mem_cons_of_mem _ (List.mem_append_left _ (weightsAll_mem (d:=D i) (List.mem_map.2 ⟨i,by simpa using hi,rfl⟩) _ ?_))
   have hD:D i=.agg [y0.1,y1.1,y2.1]:=congrArg Prod.fst ey
   rw [hD]
   have hu2:Tryz.prog.underlying 261=_:=Tryz.underlying261
   simp only [DataW.weights,hu2]
   exact DataW.weights_mem_each (j:=2) rfl rfl q hq)
  have g0:=hce 0 (by omega)
  have g1:=hce 1 (by omega)
  have g2:=hce 2 (by omega)
  rw [add_add] at g0 g1 g2
  simp at g0 g1 g2
  simp [Lit.wf,IntKind.min,IntKind.max,IntKind.signed,IntKind.bits] at w0 w1
  exact⟨⟨n0,n1,c2,ss⟩,⟨g0,g1,g2⟩,hS,⟨by show _≤n0;omega,by show n0≤_;omega,by show _≤n1;omega,by show n1≤_;omega,hsn,hss⟩⟩
 obtain⟨cs,hcl,hcs⟩:=list_by len each
 refine⟨cs,⟨?_,fun c hc=>?_⟩,fun c hc=>?_,?_⟩
 ·rw [hcl]
  refine rd_open (by omega) (by rw [flat_length,hcl]) fun j u hj=>?_
  have hj2:j<cs.length * 3:=by
   have:=(List.getElem?_eq_some_iff.1 hj).1
   rwa [flat_length] at this
  have hi:j / 3<cs.length:=by omega
  have hf:=flat_at cs (j / 3) hi
  have hp:=(hcs (j / 3) hi).1
  rcases (show j=j / 3 * 3∨j=j / 3 * 3+1∨j=j / 3 * 3+2 by omega) with h0 | h0 | h0
  ·rw [h0] at hj ⊢
   rw [hf.1] at hj
   rw [hp.1];exact hj
  ·rw [h0] at hj ⊢
   rw [hf.2.1] at hj
   rw [hp.2.1];exact hj
  ·rw [h0] at hj ⊢
   rw [hf.2.2] at hj
   rw [hp.2.2];exact hj
 ·obtain⟨i,hi,rfl⟩:=List.getElem_of_mem hc
  exact (hcs i hi).2.1
 ·obtain⟨i,hi,rfl⟩:=List.getElem_of_mem hc
  exact (hcs i hi).2.2
 ·have:=hw (((List.range len).map D).length * 40+((List.range (m - len)).map fun j=>D (len+j)).length * 40) (by
   simp only [DataW.weights,hu,hb40,Nat.add_mul]
   exact List.mem_cons_self ..)
  unfold reachBytes at this
  simp at this
  omega
end
theorem weight_at {H:Type} {P:Program} {ts:List TypeId} {ds:List (DataW H)} (h:(DataW.weightsEach P ts ds).all (·≤reachBytes)=true) (j:Nat) {t:TypeId} {d:DataW H} (ht:ts[j]?=some t) (hd:ds[j]?=some d):∀ n∈d.weights P t,n≤reachBytes:=by
 intro n hn
 simpa using List.all_eq_true.1 h _ (DataW.weights_mem_each ht hd n hn)
open Go.ChangeShapes Go.WideShapes Go.ChangeAt Go.RowKit Go.Joins Go.Deep
theorem list_of2 {α:Type}:∀ {l:List α},l.length=2→∃ x0 x1,l=[x0,x1]
 | [x0,x1],_=>⟨x0,x1,rfl⟩
theorem list_of5 {α:Type}:∀ {l:List α},l.length=5→∃ x0 x1 x2 x3 x4,l=[x0,x1,x2,x3,x4]
 | [x0,x1,x2,x3,x4],_=>⟨x0,x1,x2,x3,x4,rfl⟩
theorem list_of7 {α:Type}:∀ {l:List α},l.length=7→∃ x0 x1 x2 x3 x4 x5 x6,l=[x0,x1,x2,x3,x4,x5,x6]
 | [x0,x1,x2,x3,x4,x5,x6],_=>⟨x0,x1,x2,x3,x4,x5,x6,rfl⟩
section
variable {H:Type} {enc:TypeId × Value→H} {P:Program} {w:World} {base:Nat} {sp:Nat→Bool} {held:Bool} {fuel:Nat}
end
section
variable {H:Type} {enc:TypeId × Value→H} {w:World} {base:Nat} {sp:Nat→Bool} {held:Bool} {fuel:Nat}
end
theorem lst2 {α:Type} {l:List α} (h:l.length=2):∃ a0 a1,l=[a0,a1]:=by
 match l,h with
 | [a0,a1],_=>exact⟨a0,a1,rfl⟩
theorem lst5 {α:Type} {l:List α} (h:l.length=5):∃ a0 a1 a2 a3 a4,l=[a0,a1,a2,a3,a4]:=by
 match l,h with
 | [a0,a1,a2,a3,a4],_=>exact⟨a0,a1,a2,a3,a4,rfl⟩
theorem lst7 {α:Type} {l:List α} (h:l.length=7):∃ a0 a1 a2 a3 a4 a5 a6,l=[a0,a1,a2,a3,a4,a5,a6]:=by
 match l,h with
 | [a0,a1,a2,a3,a4,a5,a6],_=>exact⟨a0,a1,a2,a3,a4,a5,a6,rfl⟩
theorem lst10 {α:Type} {l:List α} (h:l.length=10):∃ a0 a1 a2 a3 a4 a5 a6 a7 a8 a9,l=[a0,a1,a2,a3,a4,a5,a6,a7,a8,a9]:=by
 match l,h with
 | [a0,a1,a2,a3,a4,a5,a6,a7,a8,a9],_=>exact⟨a0,a1,a2,a3,a4,a5,a6,a7,a8,a9,rfl⟩
theorem lst22 {α:Type} {l:List α} (h:l.length=22):∃ a0 a1 a2 a3 a4 a5 a6 a7 a8 a9 a10 a11 a12 a13 a14 a15 a16 a17 a18 a19 a20 a21,l=[a0,a1,a2,a3,a4,a5,a6,a7,a8,a9,a10,a11,a12,a13,a14,a15,a16,a17,a18,a19,a20,a21]:=by
 match l,h with
 | [a0,a1,a2,a3,a4,a5,a6,a7,a8,a9,a10,a11,a12,a13,a14,a15,a16,a17,a18,a19,a20,a21],_=>exact⟨a0,a1,a2,a3,a4,a5,a6,a7,a8,a9,a10,a11,a12,a13,a14,a15,a16,a17,a18,a19,a20,a21,rfl⟩
section
variable {H:Type} {enc:TypeId × Value→H} {P:Program} {w:World} {base:Nat} {sp:Nat→Bool} {held:Bool} {fuel:Nat}
theorem trod_part {t:TypeId} {fs:Array Field} {cs:List Value} {x:DataW H × List MemPlace} (N:Nat) (hN:fs.size=N) (hs:P.underlying t=some (.struct fs))
  (h:DataW.trod enc P w base sp held fuel t cs=some x) :
  ∃ (ys:List (DataW H × List MemPlace)) (n:Nat),x=(.agg (ys.map (·.1)),ys.flatMap (·.2))∧ys.length=N∧cs.length=P.cellsOf t ∧
   ∀ (i:Nat) (f:Field) (y:DataW H × List MemPlace),fs[i]?=some f→ys[i]?=some y→DataW.trod enc P w base sp held n f.type ((cs.drop f.offset).take (P.cellsOf f.type))=some y:=by
 obtain⟨ys,n,_,hx,hc,hlen,hg⟩:=DataW.trod_struct hs h
 exact⟨ys,n,hx,hlen.trans hN,hc,fun i f y hi hy=>by rw [← hy];exact hg i f hi⟩
end
section
variable {H:Type} {enc:TypeId × Value→H} {w:World} {base:Nat} {sp:Nat→Bool} {held:Bool} {fuel:Nat}
theorem i64_wf {n:Int} (h:(Lit.int IntKind.i64 n).wf=true):I64 n:=by
 simp [Lit.wf,IntKind.min,IntKind.max,IntKind.signed,IntKind.bits] at h
 exact⟨by omega,by omega⟩
theorem rat_open {cs:List Value} {x:DataW H × List MemPlace} (h:DataW.trod enc Tryz.prog w base sp held fuel 77 cs=some x):∃ a b:Int,cs=[.int .i64 a,.int .i64 b]∧I64 a∧I64 b:=by
 obtain⟨y0,y1,n',ey,hl,t0,t1⟩:=trod_struct2 Tryz.underlying77 h
 have k1:Tryz.prog.cellsOf 2=1:=by kernel_rfl
 have k2:Tryz.prog.cellsOf 77=2:=by kernel_rfl
 rw [k2] at hl
 obtain⟨c0,c1,rfl⟩:=lst2 hl
 simp [k1] at t0 t1
 obtain⟨n0,e0,_,w0⟩:=DataW.trod_int Tryz.underlying2 t0
 obtain⟨n1,e1,_,w1⟩:=DataW.trod_int Tryz.underlying2 t1
 simp at e0 e1
 subst e0 e1
 exact⟨n0,n1,rfl,i64_wf w0,i64_wf w1⟩
theorem source_open {cs:List Value} {x:DataW H × List MemPlace} (h:DataW.trod enc Tryz.prog w base sp held fuel 79 cs=some x) (hw:∀ n∈x.1.weights Tryz.prog 79,n≤reachBytes) :
  ∃ s:Sr,cs=s.cells∧SrOk s:=by
 obtain⟨ys,n',ey,hl,hn,hf⟩:=trod_part 5 rfl Tryz.underlying79 h
 have k0:Tryz.prog.cellsOf 3=1:=by kernel_rfl
 have k1:Tryz.prog.cellsOf 9=1:=by kernel_rfl
 have k2:Tryz.prog.cellsOf 77=2:=by kernel_rfl
 have k3:Tryz.prog.cellsOf 4=1:=by kernel_rfl
 have k7:Tryz.prog.cellsOf 79=7:=by kernel_rfl
 rw [k7] at hn
 obtain⟨y0,y1,y2,y3,y4,rfl⟩:=lst5 hl
 obtain⟨c0,c1,c2,c3,c4,c5,c6,rfl⟩:=lst7 hn
 have t0:=hf 0 _ _ rfl rfl
 have t1:=hf 1 _ _ rfl rfl
 have t2:=hf 2 _ _ rfl rfl
 have t3:=hf 3 _ _ rfl rfl
 have t4:=hf 4 _ _ rfl rfl
 simp [k0,k1,k2,k3] at t0 t1 t2 t3 t4
 obtain⟨n0,e0,_,w0⟩:=DataW.trod_int Tryz.underlying3 t0
 obtain⟨s1,e1,q1,_⟩:=DataW.trod_string Tryz.underlying9 t1
 obtain⟨a2,b2,e2,i2,j2⟩:=rat_open t2
 obtain⟨a3,b3,e3,i3,j3⟩:=rat_open t3
 obtain⟨b4,e4,_⟩:=DataW.trod_bool Tryz.underlying4 t4
 simp at e0 e1 e2 e3 e4
 obtain⟨e20,e21⟩:=e2
 obtain⟨e30,e31⟩:=e3
 subst e0 e1 e20 e21 e30 e31 e4
 refine⟨⟨n0,s1,a2,b2,a3,b3,b4⟩,rfl,⟨i64_wf w0,?_,i2,j2,i3,j3⟩⟩
 show s1.size≤_
 have:=hw s1.size (by
  have hD:x.1=_:=congrArg Prod.fst ey
  rw [hD]
  have hu2:Tryz.prog.underlying 79=_:=Tryz.underlying79
  simp only [DataW.weights,hu2]
  refine DataW.weights_mem_each (j:=1) rfl rfl _ ?_
  simp [q1,DataW.weights])
 unfold reachBytes at this
 omega
theorem chan_open {v:Value} {x:DataW H × List MemPlace} (h:DataW.trod enc Tryz.prog w base sp held fuel 25 [v]=some x) (hw:∀ n∈x.1.weights Tryz.prog 25,n≤reachBytes) :
  ∃ xs:List Int,Rd w v xs.length 1 (intsV xs)∧xs.length * 8≤140737488355328:=by
 rcases open_ints Tryz.underlying25 Tryz.underlying3 (by kernel_rfl) h with ⟨e,rfl⟩ | ⟨a,len,cap,zs,e,hb,hlc,hcm,hlen,rfl,hcell,hwf⟩
 ·simp at e;subst e
  exact⟨[],Rd.nil w 1,by simp⟩
 simp at e;subst e
 have hle:len≤zs.length:=by rw [hlen];split <;> omega
 have hz:(zs.take len).length=len:=by simp [hle]
 have hu:Tryz.prog.underlying 25=some (.slice 3):=Tryz.underlying25
 have hb8:Tryz.prog.bytesOf 3=8:=by kernel_rfl
 refine⟨zs.take len,?_,?_⟩
 ·rw [hz]
  unfold intsV
  refine rd_open (by omega) (by simp [hle]) fun j u hj=>?_
  have hj2:j<len:=by
   have:=(List.getElem?_eq_some_iff.1 hj).1
   simp at this;omega
  have h2:=hcell j (by omega)
  rw [h2]
  rw [List.getElem?_map,List.getElem?_take,if_pos hj2,List.getElem?_eq_getElem (show j<zs.length by omega)] at hj
  simp at hj
  rw [List.getD_eq_getElem?_getD,List.getElem?_eq_getElem (show j<zs.length by omega)]
  simp [hj]
 ·rw [hz]
  have:=hw ((lits (H:=H) .i64 (zs.take len)).length * 8+(lits (H:=H) .i64 (zs.drop len)).length * 8) (by
   simp only [DataW.weights,hu,hb8,Nat.add_mul]
   exact List.mem_cons_self ..)
  unfold reachBytes lits at this
  simp at this
  omega
theorem clip_open {cs:List Value} {x:DataW H × List MemPlace} (h:DataW.trod enc Tryz.prog w base sp held fuel 81 cs=some x) (hw:∀ n∈x.1.weights Tryz.prog 81,n≤reachBytes) :
  ∃ m:CM,cs=m.cells∧ChR w m∧ClOk m.c:=by
 obtain⟨ys,n',ey,hl,hn,hf⟩:=trod_part 10 rfl Tryz.underlying81 h
 have k0:Tryz.prog.cellsOf 3=1:=by kernel_rfl
 have k1:Tryz.prog.cellsOf 9=1:=by kernel_rfl
 have k2:Tryz.prog.cellsOf 2=1:=by kernel_rfl
 have k3:Tryz.prog.cellsOf 25=1:=by kernel_rfl
 have k7:Tryz.prog.cellsOf 79=7:=by kernel_rfl
 have k22:Tryz.prog.cellsOf 81=22:=by kernel_rfl
 rw [k22] at hn
 obtain⟨y0,y1,y2,y3,y4,y5,y6,y7,y8,y9,rfl⟩:=lst10 hl
 obtain⟨c0,c1,c2,c3,c4,c5,c6,c7,c8,c9,c10,c11,c12,c13,c14,c15,c16,c17,c18,c19,c20,c21,rfl⟩:=lst22 hn
 have t0:=hf 0 _ _ rfl rfl
 have t1:=hf 1 _ _ rfl rfl
 have t2:=hf 2 _ _ rfl rfl
 have t3:=hf 3 _ _ rfl rfl
 have t4:=hf 4 _ _ rfl rfl
 have t5:=hf 5 _ _ rfl rfl
 have t6:=hf 6 _ _ rfl rfl
 have t7:=hf 7 _ _ rfl rfl
 have t8:=hf 8 _ _ rfl rfl
 have t9:=hf 9 _ _ rfl rfl
 simp [k0,k1,k2,k3,k7] at t0 t1 t2 t3 t4 t5 t6 t7 t8 t9
 have hD:x.1=_:=congrArg Prod.fst ey
 have hu2:Tryz.prog.underlying 81=_:=Tryz.underlying81
 rw [hD] at hw
 simp only [DataW.weights,hu2] at hw
 obtain⟨n0,e0,_,w0⟩:=DataW.trod_int Tryz.underlying2 t0
 obtain⟨n1,e1,_,w1⟩:=DataW.trod_int Tryz.underlying3 t1
 obtain⟨s2,e2,i2⟩:=source_open t2 (fun q hq=>hw q (DataW.weights_mem_each (j:=2) rfl rfl q hq))
 obtain⟨s3,e3,i3⟩:=source_open t3 (fun q hq=>hw q (DataW.weights_mem_each (j:=3) rfl rfl q hq))
 obtain⟨n4,e4,_,w4⟩:=DataW.trod_int Tryz.underlying2 t4
 obtain⟨n5,e5,_,w5⟩:=DataW.trod_int Tryz.underlying2 t5
 obtain⟨n6,e6,_,w6⟩:=DataW.trod_int Tryz.underlying3 t6
 obtain⟨s7,e7,q7,_⟩:=DataW.trod_string Tryz.underlying9 t7
 obtain⟨n8,e8,_,w8⟩:=DataW.trod_int Tryz.underlying3 t8
 obtain⟨xs,hxs,hxl⟩:=chan_open t9 (fun q hq=>hw q (DataW.weights_mem_each (j:=9) rfl rfl q hq))
 have h7:s7.size≤140737488355328:=by
  have:=hw s7.size (by
   refine DataW.weights_mem_each (j:=7) rfl rfl _ ?_
   simp [q7,DataW.weights])
  unfold reachBytes at this
  omega
 unfold Sr.cells at e2 e3
 simp at e0 e1 e2 e3 e4 e5 e6 e7 e8
 obtain⟨a0,a1,a2,a3,a4,a5,a6⟩:=e2
 obtain⟨b0,b1,b2,b3,b4,b5,b6⟩:=e3
 subst e0 e1 a0 a1 a2 a3 a4 a5 a6 b0 b1 b2 b3 b4 b5 b6 e4 e5 e6 e7 e8
 exact⟨⟨⟨n0,n1,s2,s3,n4,n5,n6,s7,n8,xs⟩,c21⟩,rfl,hxs,⟨i64_wf w0,i64_wf w1,i2,i3,i64_wf w4,i64_wf w5,i64_wf w6,h7,i64_wf w8,hxl⟩⟩
theorem track_open {v:Value} {x:DataW H × List MemPlace} (h:DataW.trod enc Tryz.prog w base sp held fuel 35 [v]=some x) (hw:∀ n∈x.1.weights Tryz.prog 35,n≤reachBytes) :
  ∃ cs:List CM,TrR w v cs∧(∀ c∈cs,ClOk c.c)∧cs.length≤140737488355328∧∀ a n c,v=.slice a n c→n≤c:=by
 have hu:Tryz.prog.underlying 35=some (.slice 81):=Tryz.underlying35
 have hb:Tryz.prog.bytesOf 81=216:=by kernel_rfl
 have hc22:Tryz.prog.cellsOf 81=22:=by kernel_rfl
 rcases open_slice hu h with ⟨e,rfl⟩ | ⟨a,len,cap,m,n,D,Pl,e,hbb,hlc,hcm,hm,rfl,hel⟩
 ·simp at e;subst e
  exact⟨[],TrR.nil w,fun c hc=>(by cases hc),by simp,fun a n c he=>(by injection he;omega)⟩
 simp at e;subst e
 have hle:len≤m:=by rw [hm];split <;> omega
 rw [hc22] at hel
 have each:∀ i,i<len→∃ c:CM,(∀ j u,c.cells[j]?=some u→w.cell? (a.add (i * 22+j))=some u)∧ChR w c∧ClOk c.c:=by
  intro i hi
  obtain⟨cs',h1,h2⟩:=hel i (by omega)
  obtain⟨_,hl,hce⟩:=World.cells?_some h1
  obtain⟨c,ec,hch,hok⟩:=clip_open h2 (by
   intro q hq
   refine hw q ?_
   simp only [DataW.weights,hu]
   exact List.mem_cons_of_mem _ (List.mem_append_left _ (weightsAll_mem (d:=D i) (List.mem_map.2 ⟨i,by simpa using hi,rfl⟩) _ hq)))
  subst ec
  refine⟨c,fun j u hu'=>?_,hch,hok⟩
  have hj:j<22:=by
   have:=(List.getElem?_eq_some_iff.1 hu').1
   rwa [CM.len22] at this
  have:=hce j (by omega)
  rw [add_add] at this
  rw [this]
  exact hu'
 obtain⟨cs,hcl,hcs⟩:=list_by len each
 refine⟨cs,⟨?_,fun c hc=>?_⟩,fun c hc=>?_,?_,fun a' n' c' he=>?_⟩
 ·rw [hcl]
  refine rd_open (by omega) (by rw [cflat_length,hcl]) fun j u hj=>?_
  have hj2:j<cs.length * 22:=by
   have:=(List.getElem?_eq_some_iff.1 hj).1
   rwa [cflat_length] at this
  have hi:j / 22<cs.length:=by omega
  have hj8:j % 22<22:=Nat.mod_lt _ (by omega)
  have he:j=j / 22 * 22+j % 22:=by omega
  rw [he] at hj ⊢
  rw [cflat_at cs (j / 22) hi (j % 22) hj8] at hj
  exact (hcs (j / 22) hi).1 _ _ hj
 ·obtain⟨i,hi,rfl⟩:=List.getElem_of_mem hc
  exact (hcs i hi).2.1
 ·obtain⟨i,hi,rfl⟩:=List.getElem_of_mem hc
  exact (hcs i hi).2.2
 ·have:=hw (((List.range len).map D).length * 216+((List.range (m - len)).map fun j=>D (len+j)).length * 216) (by
   simp only [DataW.weights,hu,hb,Nat.add_mul]
   exact List.mem_cons_self ..)
  unfold reachBytes at this
  simp at this
  omega
 ·injection he with h1 h2 h3
  omega
end
open Go.ChangeShapes Go.WideShapes Go.ChangeAt Go.RowKit Go.Joins
theorem own:ownKnob Tryz.prog.godebug=none:=by kernel_rfl
theorem laidOut:laidOutB Tryz.prog=true:=by kernel_rfl
theorem trodAll_below {H:Type} {enc:TypeId × Value→H} {P:Program} (hl:laidOutB P=true) {W W':World} (hb:Below W.heap.size W W') :
  ∀ (ts:List TypeId) (vs:List Value) (ds:List (DataW H)) (ps:List MemPlace),ts.all (fun t=>P.readableRec t && decide (t<P.types.size))=true →
   (∀ x∈ps,x.block<W.heap.size)→DataW.TrodAll enc P W 0 (fun _=>true) true ts vs ds ps→DataW.TrodAll enc P W' 0 (fun b=>decide (b<W.heap.size)) true ts vs ds ps
 | [],vs,ds,ps,_,_,h=>by
  obtain⟨rfl,rfl,rfl⟩:=trodAll_nil h
  exact trodAll_mk0
 | t :: ts,vs,ds,ps,ht,hlt,h=>by
  obtain⟨v,vs',d,ds',p,q,rfl,rfl,rfl,h1,h2⟩:=trodAll_cons h
  simp only [List.all_cons,Bool.and_eq_true,decide_eq_true_eq] at ht
  exact trodAll_cons_mk (Below.trod hl ht.1.1 ht.1.2 h1 hb fun x hx=>hlt x (List.mem_append.2 (.inl hx)))
   (trodAll_below hl hb ts vs' ds' q ht.2 (fun x hx=>hlt x (List.mem_append.2 (.inr hx))) h2)
theorem law_post {H:Type} {enc:TypeId × Value→H} {P:Program} {f:Func} {s:ChangeSpec} {W W':World} {args:Array Value} {ds gs:List (DataW H)} {before:List MemPlace} (tb:TypeId)
  (hl:laidOutB P=true) (hp:f.params.toList.all (fun t=>P.readableRec t && decide (t<P.types.size))=true) (hr:f.resultTypes=#[tb]) (hb:P.underlying tb=some .bool) (hv:s.vars=[])
  (h1:(s.fn H (ds ++ gs)).results=[.lit (.bool true)]) (h2:(s.fn H (ds ++ gs)).args=ds) (h3:(s.fn H (ds ++ gs)).vars=[])
  (hW:DataW.Whole enc P f.params.toList s.vars false W args.toList ds gs before) (hg:Below W.heap.size W W'):s.post enc P f false true false false W args (.bool true) W':=by
 have hlt:∀ p∈before,p.block<W.heap.size:=fun p hp=>hW.lt p hp
 have hW':=hW
 obtain⟨p,q,hA,hV,rfl,_,_⟩:=hW
 refine⟨ds,gs,p ++ q,[],p,[],hW',?_,?_,?_,hg.frame _,fun h=>by cases h⟩
 ·rw [h1,hr]
  exact trodAll_mk1 (shut_bool hb _)
 ·rw [h2]
  exact trodAll_below hl hg _ _ _ _ hp (fun x hx=>hlt x (List.mem_append.2 (.inl hx))) hA
 ·rw [h3,hv]
  rfl
end Go.Proofs.YtgbiodnfpbhjiaaGreatDoor
