/-
  Contracts of the small parts of a medium's check in package timeline.
  Conditions: the captions lie in memory.
-/
import Derived.Test.YtnginfangeikpaaGreatDoorShS
import Derived.Deep.WholeRow
import Derived.Test.YtnginfangeikpaaGreatDoorWalkF
import Derived.Deep.CutBlock
import Derived.Test.YtnginfangeikpaaGreatDoorShJ
namespace Go.Proofs.YtnginfangeikpaaGreatDoor
open Go.RowKit Go.Lib
set_option linter.unusedSimpArgs false
set_option linter.unusedVariables false
theorem st_fresh {P:Program} (w:World) (t:TypeId) (c:Array Value) (l:List Value) (hi:(P.info? t).map (·.size)=some l.length) (ho:c.size=l.length) (h1:∀ v∈l,v.oneCell'=true) :
  (storeCells ⟨w.heap.size,0,none⟩ l 0).run P (w.alloc (.cells c t))=.ok () (w.alloc (.cells l.toArray t)):=by
 have:=run_storeCells_new (P:=P) w t c l.toArray (by simpa using hi) (by simpa using ho) (by simpa using h1)
 simpa using this
set_option maxHeartbeats 1000000 in
theorem name_a (w:World):Calls Tryz.prog 58 #[.string ⟨#[97]⟩] w fun e w'=>e=.returned (.bool true)∧Gr w w':=by
 go_enter Tryz.func58,Tryz.ntmps58
 go_wp2
 go_loop [3,4,15] (fun _ _ k=>∃ kk:Nat,kk≤1∧k=.int .i64 kk) (fun _ _ k=>1 - (RowKit.intOf k).toNat)
 case atStart=>exact⟨0,by omega,rfl⟩
 case round=>
  obtain⟨kk,hk,rfl⟩:=hrel
  rcases (show kk=0∨kk=1 by omega) with rfl | rfl
  ·go_wp2
   exact⟨⟨1,by omega,by go_num⟩,by simp [RowKit.intOf]⟩
  ·go_wp2
   go_ret
   exact⟨rfl,(by repeat (first | with_reducible exact Gr.refl _ | with_reducible assumption | refine Gr.setCell ?_ (by first | omega | (simp;done) | (simp;omega)) _ | refine Gr.alloc ?_ _ | refine Gr.drew ?_ | refine Gr.drewN ?_ _ | refine Gr.trans ?_ (by with_reducible assumption)))⟩
theorem rate_25 (w:World):Calls Tryz.prog 91 #[.agg #[.int .i64 25,.int .i64 1]] w fun e w'=>e=.returned (.bool true)∧Gr w w':=by
 have HV:Hid (∀ w,Calls Tryz.prog 119 #[.agg #[.int .i64 25,.int .i64 1]] w fun e w'=>e=.returned (.bool true)∧Gr w w'):=Lib.hid fun w=>by
  have:=valid_any 25 1 w ⟨by omega,by omega⟩ ⟨by omega,by omega⟩
  rwa [show vB 25 1=true by decide +kernel] at this
 go_enter Tryz.func91,Tryz.ntmps91
 go_wp2_with (go_at_call 119;(with_reducible refine (HV.out _).mono ?_);rintro e w1 ⟨rfl,hg1⟩;have hb:=(Cel.new w #[.int .i64 25,.int .i64 1] 57).gr hg1;obtain⟨q0,q1,q2,q3,q4⟩:=hb.two)
 go_ret
 exact⟨rfl,(by repeat (first | refine Gr.setCell ?_ (by first | omega | (simp;done) | (simp;omega)) _ | refine Gr.alloc ?_ _ | refine Gr.drew ?_ | refine Gr.drewN ?_ _ | with_reducible assumption | with_reducible exact Gr.refl _ | refine Gr.trans ?_ (by with_reducible assumption)))⟩
theorem count_any (n:Int) (w:World) (h:0≤n∧n≤2147483647):Calls Tryz.prog 92 #[.int .i64 n] w fun e w'=>e=.returned (.bool true)∧Gr w w':=by
 have q1:decide (0≤n)=true:=decide_eq_true h.1
 have q2:decide (n≤2147483647)=true:=decide_eq_true h.2
 go_enter Tryz.func92,Tryz.ntmps92
 go_wp2
 go_ret
 exact⟨rfl,(by repeat (first | refine Gr.setCell ?_ (by first | omega | (simp;done) | (simp;omega)) _ | refine Gr.alloc ?_ _ | refine Gr.drew ?_ | refine Gr.drewN ?_ _ | with_reducible assumption | with_reducible exact Gr.refl _ | refine Gr.trans ?_ (by with_reducible assumption)))⟩
theorem chan_zero (w:World):Calls Tryz.prog 93 #[.int .i64 0] w fun e w'=>e=.returned (.bool true)∧Gr w w':=by
 go_enter Tryz.func93,Tryz.ntmps93
 go_wp2
 go_ret
 exact⟨rfl,(by repeat (first | refine Gr.setCell ?_ (by first | omega | (simp;done) | (simp;omega)) _ | refine Gr.alloc ?_ _ | refine Gr.drew ?_ | refine Gr.drewN ?_ _ | with_reducible assumption | with_reducible exact Gr.refl _ | refine Gr.trans ?_ (by with_reducible assumption)))⟩
set_option maxHeartbeats 2000000 in
theorem tvalid_any (v:Value) (cs:List Cu) (w:World) (hC:Cues w v cs) :
  Calls Tryz.prog 94 #[v] w fun e w'=>e=.returned (.bool (vCues cs))∧Gr w w':=by
 obtain⟨a,cap,rfl,ha⟩:=hC.at_.shape
 have hlen:=hC.n
 have hC:=Lib.hid hC
 obtain⟨R,hR⟩:∃ R,vCues cs=R:=⟨_,rfl⟩
 rw [hR]
 have HS:Hid ((cs.drop 0).all vCu=R):=hR
 clear hR
 have ha:=Lib.hid ha
 go_enter Tryz.func94,Tryz.ntmps94
 go_wp2
 go_loopw [7] (fun k wr=>∃ kk:Nat,kk≤cs.length∧k=.int .i64 kk∧Hid ((cs.drop kk).all vCu=R)∧Gr w wr) (fun k _=>cs.length - (RowKit.intOf k).toNat)
 case atStart=>exact⟨0,Nat.zero_le _,rfl,HS,(by repeat (first | with_reducible exact Gr.refl _ | with_reducible assumption | refine Gr.setCell ?_ (by first | omega | (simp;done) | (simp;omega)) _ | refine Gr.alloc ?_ _ | refine Gr.drew ?_ | refine Gr.drewN ?_ _ | refine Gr.trans ?_ (by with_reducible assumption)))⟩
 case round=>
  obtain⟨kk,h3,rfl,hno,hg⟩:=hrel
  clear HS
  obtain⟨hcg,hfg⟩:=hg.cells
  by_cases c1:kk<cs.length
  ·have q6:decide (kk<cs.length)=true:=decide_eq_true c1
   rcases ha.out with ha2 | ⟨b,o,rfl,hb,hc⟩
   ·omega
   have hd:=hno.out
   rw [List.drop_eq_getElem_cons c1,List.all_cons] at hd
   have hc:=hc kk c1
   have e0:=(hcg b _ hb).trans hc.1
   have e1:=(hcg b _ hb).trans hc.2.1
   have e2:=(hcg b _ hb).trans hc.2.2
   have hok:=hC.out.ok _ (List.getElem_mem c1)
   have hst:=(hC.out.at_.2 _ (List.getElem_mem c1)).gr hg
   generalize cs[kk]=c at hd e0 e1 e2 hok hst
   clear hc
   have hall:Hid (∀ w',Gr wr w'→Calls Tryz.prog 120 #[.agg #[.int .i64 c.f,.int .i64 c.t,c.lv]] w' fun e w''=>e=.returned (.bool (vCu c))∧Gr w' w''):=
    fun w' hg'=>validCue_any c.f c.t c.lv c.ss w' ⟨hok.f1,hok.f2⟩ ⟨hok.t1,hok.t2⟩ (hst.gr hg') hok.s hok.n
   obtain⟨a2,cap2,hlv,hsh⟩:=hst.shape
   clear hsh
   cases hv:vCu c with
   | false=>
    rw [hv] at hd hall
    have hV:Hid (R=false):=hd.symm
    clear hd hno hv ha hcg hfg hC hst
    rw [hlv] at e2 hall
    clear hlv hok
    go_wp2_with (go_at_call 120;(with_reducible refine (hall.out _ ?_).mono ?_);(· exact (by repeat (first | with_reducible exact Gr.refl _ | with_reducible assumption | refine Gr.setCell ?_ (by first | omega | (simp;done) | (simp;omega)) _ | refine Gr.alloc ?_ _ | refine Gr.drew ?_ | refine Gr.drewN ?_ _ | refine Gr.trans ?_ (by with_reducible assumption))));rintro e w1 ⟨rfl,hg1⟩)
    go_ret
    exact⟨by rw [hV.out];rfl,(by repeat (first | with_reducible exact Gr.refl _ | with_reducible assumption | refine Gr.setCell ?_ (by first | omega | (simp;done) | (simp;omega)) _ | refine Gr.alloc ?_ _ | refine Gr.drew ?_ | refine Gr.drewN ?_ _ | refine Gr.trans ?_ (by with_reducible assumption)))⟩
   | true=>
    rw [hv] at hd hall
    have hV:Hid ((cs.drop (kk+1)).all vCu=R):=hd
    clear hd hno hv ha hcg hfg hC hst
    rw [hlv] at e2 hall
    clear hlv hok
    go_wp2_with (go_at_call 120;(with_reducible refine (hall.out _ ?_).mono ?_);(· exact (by repeat (first | with_reducible exact Gr.refl _ | with_reducible assumption | refine Gr.setCell ?_ (by first | omega | (simp;done) | (simp;omega)) _ | refine Gr.alloc ?_ _ | refine Gr.drew ?_ | refine Gr.drewN ?_ _ | refine Gr.trans ?_ (by with_reducible assumption))));rintro e w1 ⟨rfl,hg1⟩)
    go_roundw
    case rel=>exact⟨kk+1,by omega,by go_num,hV,(by repeat (first | with_reducible exact Gr.refl _ | with_reducible assumption | refine Gr.setCell ?_ (by first | omega | (simp;done) | (simp;omega)) _ | refine Gr.alloc ?_ _ | refine Gr.drew ?_ | refine Gr.drewN ?_ _ | refine Gr.trans ?_ (by with_reducible assumption)))⟩
    case measure=>simp [RowKit.intOf];omega
  ·have q6:decide (kk<cs.length)=false:=decide_eq_false c1
   have hV:Hid (R=true):=by
    have hd:=hno.out
    rw [List.drop_of_length_le (by omega)] at hd
    exact hd.symm
   clear hno ha hcg hfg hC
   go_wp2
   go_ret
   exact⟨by rw [hV.out];rfl,(by repeat (first | with_reducible exact Gr.refl _ | with_reducible assumption | refine Gr.setCell ?_ (by first | omega | (simp;done) | (simp;omega)) _ | refine Gr.alloc ?_ _ | refine Gr.drew ?_ | refine Gr.drewN ?_ _ | refine Gr.trans ?_ (by with_reducible assumption)))⟩
end Go.Proofs.YtnginfangeikpaaGreatDoor

namespace Go.Proofs.YtnginfangeikpaaGreatDoor
open Go.RowKit Go.Lib
set_option linter.unusedSimpArgs false
set_option linter.unusedVariables false
structure MedR (ml:List Value) (nm:ByteArray) (fr:Int) (cv:Value):Prop where
 n:ml.length=141
 one:∀ v∈ml,v.oneCell'=true
 c0:ml[0]?=some (.string nm)
 c4:ml[4]?=some (.int .i64 25)
 c5:ml[5]?=some (.int .i64 1)
 c137:ml[137]?=some (.int .i64 fr)
 c138:ml[138]?=some (.int .i64 0)
 c139:ml[139]?=some (.int .i64 0)
 c140:ml[140]?=some cv
set_option maxRecDepth 20000 in
set_option maxHeartbeats 2000000 in
theorem medium_ok (ml:List Value) (nm:ByteArray) (fr:Int) (cv:Value) (cs:List Cu) (w:World) (hm:MedR ml nm fr cv) (HN:Hid (∀ w',Calls Tryz.prog 58 #[.string nm] w' fun e w''=>e=.returned (.bool true)∧Gr w' w'')) (hfr:0≤fr∧fr≤2147483647) (hC:Cues w cv cs) (hv:vCues cs=true) :
  Calls Tryz.prog 66 #[.agg ml.toArray] w fun e w'=>e=.returned (.bool false)∧Gr w w':=by
 have HR:Hid (∀ w',Calls Tryz.prog 91 #[.agg #[.int .i64 25,.int .i64 1]] w' fun e w''=>e=.returned (.bool true)∧Gr w' w''):=Lib.hid fun w'=>rate_25 w'
 have HF:Hid (∀ w',Calls Tryz.prog 92 #[.int .i64 fr] w' fun e w''=>e=.returned (.bool true)∧Gr w' w''):=Lib.hid fun w'=>count_any fr w' hfr
 have HZ:Hid (∀ w',Calls Tryz.prog 92 #[.int .i64 0] w' fun e w''=>e=.returned (.bool true)∧Gr w' w''):=Lib.hid fun w'=>count_any 0 w' (by omega)
 have HH:Hid (∀ w',Calls Tryz.prog 93 #[.int .i64 0] w' fun e w''=>e=.returned (.bool true)∧Gr w' w''):=Lib.hid fun w'=>chan_zero w'
 obtain⟨a,cap,rfl,-⟩:=hC.at_.shape
 have HV:Hid (∀ w',Gr w w'→Calls Tryz.prog 94 #[.slice a cs.length cap] w' fun e w''=>e=.returned (.bool true)∧Gr w' w''):=Lib.hid fun w' hg=>by rw [← hv];exact tvalid_any _ cs w' (hC.gr hg)
 have hb:=Cel.new w ml.toArray 70
 have hg0:Gr w (w.alloc (.cells ml.toArray 70)):=(Gr.refl w).alloc _
 simp only [List.toList_toArray] at hb
 have x:=hb.lt
 have x0:=(hb.2 0 _ hm.c0).1
 replace hm:=Lib.hid hm
 clear hC hv hfr
 go_enter Tryz.func66,Tryz.ntmps66
 go_wp2_with (first
  | (go_at_call 58;(with_reducible refine (HN.out _).mono ?_);rintro e w1 ⟨rfl,hg1⟩;have hb1:=hb.gr hg1;have a0:=hb1.lt;have a4:=(hb1.2 4 _ hm.out.c4).1;have a5:=(hb1.2 5 _ hm.out.c5).1)
  | (go_at_call 91;(with_reducible refine (HR.out _).mono ?_);rintro e w2 ⟨rfl,hg2⟩;have hb2:=hb1.gr hg2;have b0:=hb2.lt;have b7:=(hb2.2 137 _ hm.out.c137).1)
  | (go_at_call 92;(with_reducible refine (HF.out w2).mono ?_);rintro e w3 ⟨rfl,hg3⟩;have hb3:=hb2.gr hg3;have c0:=hb3.lt;have c9:=(hb3.2 139 _ hm.out.c139).1)
  | (go_at_call 92;(with_reducible refine (HZ.out w3).mono ?_);rintro e w4 ⟨rfl,hg4⟩;have hb4:=hb3.gr hg4;have d0:=hb4.lt;have d8:=(hb4.2 138 _ hm.out.c138).1)
  | (go_at_call 93;(with_reducible refine (HH.out _).mono ?_);rintro e w5 ⟨rfl,hg5⟩;have hb5:=hb4.gr hg5;have e0:=hb5.lt;have e40:=(hb5.2 140 _ hm.out.c140).1)
  | (go_at_call 94;(with_reducible refine (HV.out _ (((((hg0.trans hg1).trans hg2).trans hg3).trans hg4).trans hg5)).mono ?_);rintro e w6 ⟨rfl,hg6⟩))
 go_ret
 exact⟨rfl,(((((hg0.trans hg1).trans hg2).trans hg3).trans hg4).trans hg5).trans hg6⟩
theorem infoMed1:(Tryz.prog.info? 70).map (·.size)=some 141:=by kernel_rfl
end Go.Proofs.YtnginfangeikpaaGreatDoor

namespace Go.Proofs.YtnginfangeikpaaGreatDoor
open Go.RowKit Go.Lib
set_option linter.unusedSimpArgs false
set_option linter.unusedVariables false
def nmK:Nat→ByteArray
 | 0=>⟨#[97]⟩
 | 1=>⟨#[109,49]⟩
 | _=>⟨#[116,97,112,101,95,55]⟩
theorem nmK_size (i:Nat):(nmK i).size≤6:=by
 rcases i with _ | _ | i
 ·decide
 ·decide
 ·show (⟨#[116,97,112,101,95,55]⟩:ByteArray).size≤6
  decide
def seqC (TB:Nat):List Value:=[.string ⟨#[115]⟩,.int .i64 25,.int .i64 1,.int .i64 16,.int .i64 16,.slice (some ⟨TB,0,none⟩) 1 1,.slice none 0 0,.slice none 0 0,.int .i64 0]
structure PrjR (w:World) (MB:Nat) (mls:Nat→List Value) (SB TB:Nat) (tv:Value):Prop where
 lt:MB<w.heap.size
 med:∀ i,i<3→MedR (mls i) (nmK i) 5000 (.slice none 0 0)
 cel:∀ i,i<3→∀ (j:Nat) u,(mls i)[j]?=some u→w.cell? ⟨MB,i * 141+j,none⟩=some u
 seq:Blk w SB 73 (seqC TB)
 trk:Blk w TB 28 [tv]
theorem PrjR.gr {w w':World} {MB SB TB:Nat} {mls:Nat→List Value} {tv:Value} (hg:Gr w w') (h:PrjR w MB mls SB TB tv):PrjR w' MB mls SB TB tv:=
 ⟨Nat.lt_of_lt_of_le h.lt hg.size,h.med,fun i hi j u hu=>(hg.cells.1 MB _ h.lt).trans (h.cel i hi j u hu),h.seq.gr hg,h.trk.gr hg⟩
def prjV (MB mc SB:Nat):List Value:=[.slice (some ⟨MB,0,none⟩) 3 mc,.slice (some ⟨SB,0,none⟩) 1 1]
def IdxM (D:DataW Value) (n:Nat):Prop:=∀ i,i<n→D.atKey (.string (nmK i).data.toList) (.held (.int .i64 0))=.held (.int .i64 5000)
theorem IdxM.step {D:DataW Value} {n:Nat} (hD:Maps.IsMap D) (h:IdxM D n):IdxM (D.put (Lit.string (nmK n).data.toList) (.held (.int .i64 5000))) (n+1):=fun i hi=>by
 by_cases he:(nmK i).data.toList=(nmK n).data.toList
 ·rw [he]
  exact Maps.atKey_put_same hD (show WideAt.IsKeyLit (Lit.string _) from trivial) _ _
 ·rw [Maps.atKey_put_other (fun e=>he (by injection e))]
  exact h i (by
   rcases Nat.lt_or_ge i n with h | h
   ·exact h
   ·exact absurd (by rw [show i=n by omega]) he)
set_option maxRecDepth 20000 in
set_option maxHeartbeats 8000000 in
theorem index_core (k:Nat) (hk:141=k) (MB mc SB TB:Nat) (mls:Nat→List Value) (tv:Value) (ts:List CM) (w:World) (hP0:PrjR w MB mls SB TB tv)
  (htv:tv.oneCell'=true)
  (HL:Hid (∀ w',Gr w w'→Calls Tryz.prog 40 #[tv] w' fun e w''=>∃ ev pv,e=.returned (.agg #[tv,ev,pv])∧Gr w' w''∧Rd w'' ev ts.length 1 ((endsC 0 (ts.map CM.c)).map (Value.int .i64))∧Rd w'' pv ts.length 20 (plsC (ts.map CM.c))∧(∀ k,ev.ownBlock=some k→w'.heap.size≤k)∧(∀ k,pv.ownBlock=some k→w'.heap.size≤k))) :
  Calls Tryz.prog 20 #[.agg (prjV MB mc SB).toArray] w fun e w'=>∃ (b1 b2 lb:Nat) (ev pv:Value),e=.returned (.agg #[.map (some b1),.map (some b2)])∧Gr w w'∧(∃ n D,MapO w' b1 n D∧IdxM D 3)∧(∃ n D,MapO w' b2 n D∧D.atKey (.string [115]) (.held (.slice none 0 0))=.held (.slice (some ⟨lb,0,none⟩) 1 1))∧Blk w' lb 103 [tv,ev,pv]∧Rd w' ev ts.length 1 ((endsC 0 (ts.map CM.c)).map (Value.int .i64))∧Rd w' pv ts.length 20 (plsC (ts.map CM.c)):=by
 have hmm:=@run_makeMap Tryz.prog
 have hmk:∀ w,(Instr.makeSlice 99 (.int .i64 1) (.int .i64 1)).run Tryz.prog w=.ok (.slice (some ⟨w.heap.size,0,none⟩) 1 1) (w.alloc (.cells #[.slice none 0 0,.slice none 0 0,.slice none 0 0] 103)):=fun _=>by kernel_rfl
 have aE:∀ w,(isAgg 70).run Tryz.prog w=.ok true w:=Tryz.isAgg70
 have zE:∀ w,(Go.sizeOf 70).run Tryz.prog w=.ok k w:=fun w=>by rw [← hk];exact Tryz.sizeOf70 w
 have hk0:¬ k=0:=by omega
 replace hk:=Lib.hid hk
 obtain⟨k3,hk3⟩:∃ k3,3=k3:=⟨_,rfl⟩
 have aL:∀ w,(isAgg 103).run Tryz.prog w=.ok true w:=Tryz.isAgg103
 have zL:∀ w,(Go.sizeOf 103).run Tryz.prog w=.ok k3 w:=fun w=>by rw [← hk3];exact Tryz.sizeOf103 w
 have HL2:Hid (∀ w',Gr w w'→Calls Tryz.prog 40 #[tv] w' fun e w''=>∃ L ev pv,e=.returned (.agg L.toArray)∧Hid ([tv,ev,pv]=L)∧L.length=k3∧(∀ v∈L,v.oneCell'=true)∧Gr w' w''∧Rd w'' ev ts.length 1 ((endsC 0 (ts.map CM.c)).map (Value.int .i64))∧Rd w'' pv ts.length 20 (plsC (ts.map CM.c))∧(∀ k,ev.ownBlock=some k→w'.heap.size≤k)∧(∀ k,pv.ownBlock=some k→w'.heap.size≤k)):=Lib.hid fun w' hg=>by
  refine (HL.out w' hg).mono ?_
  rintro e w'' ⟨ev,pv,rfl,h1,h2,h3,h4,h5⟩
  refine⟨_,ev,pv,rfl,Lib.hid rfl,hk3,?_,h1,h2,h3,h4,h5⟩
  obtain⟨_,a1,c1,rfl,_⟩:=h2
  obtain⟨_,a2,c2,rfl,_⟩:=h3
  intro v hv
  simp only [List.mem_cons,List.not_mem_nil,or_false] at hv
  rcases hv with rfl | rfl | rfl
  ·exact htv
  ·rfl
  ·rfl
 replace hk3:=Lib.hid hk3
 clear HL
 have s1:(w.alloc (.cells (prjV MB mc SB).toArray 35)).heap.size=w.heap.size+1:=by simp
 have s2:((w.alloc (.cells (prjV MB mc SB).toArray 35)).alloc (.cells #[.map none,.map none] 79)).heap.size=w.heap.size+1+1:=by simp
 have s3:(((w.alloc (.cells (prjV MB mc SB).toArray 35)).alloc (.cells #[.map none,.map none] 79)).alloc (.map #[] 0)).heap.size=w.heap.size+1+1+1:=by simp
 have s4:((((w.alloc (.cells (prjV MB mc SB).toArray 35)).alloc (.cells #[.map none,.map none] 79)).alloc (.map #[] 0)).alloc (.map #[] 0)).heap.size=w.heap.size+1+1+1+1:=by simp
 have g5:Gr ((((w.alloc (.cells (prjV MB mc SB).toArray 35)).alloc (.cells #[.map none,.map none] 79)).alloc (.map #[] 0)).alloc (.map #[] 0)) (((((w.alloc (.cells (prjV MB mc SB).toArray 35)).alloc (.cells #[.map none,.map none] 79)).alloc (.map #[] 0)).alloc (.map #[] 0)).alloc (.cells #[.map (some (w.heap.size+1+1)),.map (some (w.heap.size+1+1+1))] 79)):=(Gr.refl _).alloc _
 have g4:=((Gr.refl (((w.alloc (.cells (prjV MB mc SB).toArray 35)).alloc (.cells #[.map none,.map none] 79)).alloc (.map #[] 0))).alloc (.map #[] 0)).trans g5
 have g3:=((Gr.refl ((w.alloc (.cells (prjV MB mc SB).toArray 35)).alloc (.cells #[.map none,.map none] 79))).alloc (.map #[] 0)).trans g4
 have g2:=((Gr.refl (w.alloc (.cells (prjV MB mc SB).toArray 35))).alloc (.cells #[.map none,.map none] 79)).trans g3
 have g1:=((Gr.refl w).alloc (.cells (prjV MB mc SB).toArray 35)).trans g2
 have hP:=(Blk.new w (prjV MB mc SB) 35).gr g2
 have hR:=(Blk.new (w.alloc (.cells (prjV MB mc SB).toArray 35)) [.map none,.map none] 79).gr g3
 have hM1:=(MapO.new ((w.alloc (.cells (prjV MB mc SB).toArray 35)).alloc (.cells #[.map none,.map none] 79))).gr g4
 have hM2:=(MapO.new (((w.alloc (.cells (prjV MB mc SB).toArray 35)).alloc (.cells #[.map none,.map none] 79)).alloc (.map #[] 0))).gr g5
 have hC:=Blk.new ((((w.alloc (.cells (prjV MB mc SB).toArray 35)).alloc (.cells #[.map none,.map none] 79)).alloc (.map #[] 0)).alloc (.map #[] 0)) [.map (some (w.heap.size+1+1)),.map (some (w.heap.size+1+1+1))] 79
 have hB:=hP0.gr g1
 rw [s1] at hR
 rw [s2] at hM1
 rw [s3] at hM2
 rw [s4] at hC
 clear s1 s2 s3 s4 g5 g4 g3 g2
 have hMB:=hP0.lt
 unfold prjV at *
 go_enter Tryz.func20,Tryz.ntmps20
 go_upto_region 2 with fail
 generalize (((((w.alloc (.cells #[.slice (some ⟨MB,0,none⟩) 3 mc,.slice (some ⟨SB,0,none⟩) 1 1] 35)).alloc (.cells #[.map none,.map none] 79)).alloc (.map #[] 0)).alloc (.map #[] 0)).alloc (.cells #[.map (some (w.heap.size+1+1)),.map (some (w.heap.size+1+1+1))] 79))=V at *
 obtain⟨PB,hPB⟩:∃ PB,w.heap.size=PB:=⟨_,rfl⟩
 have hMBP:MB<PB:=by rw [← hPB];exact hMB
 rw [hPB] at hP hR hM1 hM2 hC hMB ⊢
 replace hPB:=Lib.hid hPB
 have hmed:=Lib.hid hP0.med
 have p0:=hP.lt
 have p1:=(hP.cel.2 0 _ rfl).1
 go_wp2
 go_loopw [17] (fun v wr=>∃ jj:Nat,jj≤3∧v=.int .i64 jj∧Gr w wr∧Blk wr PB 35 [.slice (some ⟨MB,0,none⟩) 3 mc,.slice (some ⟨SB,0,none⟩) 1 1]∧Blk wr (PB+1) 79 [.map none,.map none]∧Blk wr (PB+1+1+1+1) 79 [.map (some (PB+1+1)),.map (some (PB+1+1+1))]∧MapO wr (PB+1+1+1) 0 (.map [])∧(∃ D,MapO wr (PB+1+1) jj D∧IdxM D jj)) (fun v _=>3 - (RowKit.intOf v).toNat)
 case atStart=>exact⟨0,by omega,rfl,g1,hP,hR,hC,hM2,_,hM1,fun i hi=>by omega⟩
 case round=>
  obtain⟨jj,hjj,rfl,hg,hPr,hRr,hCr,hM2r,D,hM1r,hD⟩:=hrel
  clear g1 hP hR hM1 hM2 hC hB p0 p1
  by_cases c1:jj<3
  ·have q1:decide ((jj:Int)<3)=true:=decide_eq_true (by omega)
   have hPrj:=hP0.gr hg
   have hcell:=hPrj.cel jj c1
   have hm:=hmed.out jj c1
   have hns:=nmK_size jj
   generalize mls jj=ml at *
   have hlk:ml.length=k:=hm.n.trans hk.out
   have la:Sem.run Tryz.prog (loadCellsFrom ⟨MB,jj * k,none⟩ 0 k #[]) wr=.ok ml.toArray wr:=by rw [show jj * k=jj * 141 by rw [← hk.out]];exact ld_row hlk hcell
   have st:=st_fresh (P:=Tryz.prog) wr 70 Tryz.zeroCells70 ml (by rw [hm.n];exact infoMed1) (by rw [hm.n];kernel_rfl) hm.one
   have hbx:=Blk.new wr ml 70
   have hgx:Gr wr (wr.alloc (.cells ml.toArray 70)):=(Gr.refl wr).alloc _
   have hbr:=hPrj.lt
   have y:=hbx.lt
   have y0:=(hbx.cel.2 0 _ hm.c0).1
   have y1:=(hbx.cel.2 137 _ hm.c137).1
   have hC2:=hCr.gr hgx
   have z:=hC2.lt
   have z0:=(hC2.cel.2 0 _ rfl).1
   have hM1x:=hM1r.gr hgx
   clear hPrj hcell hM1r
   go_wp2_with (at_mapUpdate;refine wpList_mapUpdate_own _ rfl _ _ _ 76 rfl 9 2 keyed_str Tryz.underlying76 heldR (PB+1+1) jj D rfl hM1x (by unfold maxLen;omega) (.string (nmK jj)) (.int .i64 5000) (Lit.string (nmK jj).data.toList) rfl rfl (MapO.key (nmK jj) (by unfold maxLen;omega)) (.held (.int .i64 5000)) [] rfl ?_;intro w9 hown9 hgrow9)
   have hgr9:Gr w w9:=(hg.trans hgx).grown hgrow9 (fun k hk=>by have e:=hPB.out;injection hk with hk;omega)
   have hne:∀ b,b≠PB+1+1→(some (PB+1+1):Option Nat)≠some b:=fun b hb e=>hb (by injection e with e;exact e.symm)
   have hD9:=hD.step (World.ownsMap.isMap hM1x)
   exact⟨⟨jj+1,by omega,by go_num,hgr9,(hPr.gr hgx).grown hgrow9 (hne _ (by omega)),(hRr.gr hgx).grown hgrow9 (hne _ (by omega)),hC2.grown hgrow9 (hne _ (by omega)),(hM2r.gr hgx).grown hgrow9 (hne _ (by omega)),_,hown9,hD9⟩,by simp [RowKit.intOf];omega⟩
  ·have q1:decide ((jj:Int)<3)=false:=decide_eq_false (by omega)
   obtain rfl:jj=3:=by omega
   clear q1
   have e3:((3:Nat):Int)=3:=rfl
   rw [e3]
   clear e3
   have p0:=hPr.lt
   have p1:=(hPr.cel.2 1 _ rfl).1
   go_wp2
   go_loopw [31] (fun v wx=>(v=.int .i64 0∧wr=wx)∨(v=.int .i64 1∧Gr w wx∧Blk wx (PB+1) 79 [.map none,.map none]∧Blk wx (PB+1+1+1+1) 79 [.map (some (PB+1+1)),.map (some (PB+1+1+1))]∧MapO wx (PB+1+1) 3 D∧∃ lb ev pv,(∃ n D2,MapO wx (PB+1+1+1) n D2∧D2.atKey (.string [115]) (.held (.slice none 0 0))=.held (.slice (some ⟨lb,0,none⟩) 1 1))∧Blk wx lb 103 [tv,ev,pv]∧Rd wx ev ts.length 1 ((endsC 0 (ts.map CM.c)).map (Value.int .i64))∧Rd wx pv ts.length 20 (plsC (ts.map CM.c))∧PB+1<lb∧(∀ k,ev.ownBlock=some k→PB+1<k)∧(∀ k,pv.ownBlock=some k→PB+1<k))) (fun v _=>1 - (RowKit.intOf v).toNat)
   case atStart=>exact .inl ⟨rfl,rfl⟩
   case round=>
    rcases hrel with ⟨rfl,rfl⟩ | ⟨rfl,hgx,hRx,hCx,hM1x,lb,ev,pv,⟨n2,D2,hM2x,hat2⟩,hLx,hex,hpx,ge0,ge1,ge2⟩
    ·have hS:=(hP0.gr hg).seq
     have hTk:=(hP0.gr hg).trk
     unfold seqC at hS
     have x:=hS.lt
     have x0:=(hS.cel.2 0 _ rfl).1
     have x1:=(hS.cel.2 1 _ rfl).1
     have x2:=(hS.cel.2 2 _ rfl).1
     have x3:=(hS.cel.2 3 _ rfl).1
     have x4:=(hS.cel.2 4 _ rfl).1
     have x5:=(hS.cel.2 5 _ rfl).1
     have x6:=(hS.cel.2 6 _ rfl).1
     have x7:=(hS.cel.2 7 _ rfl).1
     have x8:=(hS.cel.2 8 _ rfl).1
     go_upto_region 10 with fail
     have hX:=Blk.new wr [.string ⟨#[115]⟩,.int .i64 25,.int .i64 1,.int .i64 16,.int .i64 16,.slice (some ⟨TB,0,none⟩) 1 1,.slice none 0 0,.slice none 0 0,.int .i64 0] 73
     have gA:=(Gr.refl wr).alloc (.cells #[.string ⟨#[115]⟩,.int .i64 25,.int .i64 1,.int .i64 16,.int .i64 16,.slice (some ⟨TB,0,none⟩) 1 1,.slice none 0 0,.slice none 0 0,.int .i64 0] 73)
     have hT2:=hTk.gr gA
     have hR2:=hRr.gr gA
     have hC2:=hCr.gr gA
     have hM12:=hM1r.gr gA
     have hM22:=hM2r.gr gA
     have hg2:=hg.trans gA
     have hrs:PB+1+1+1+1<wr.heap.size:=hCr.lt
     clear hS x x0 x1 x2 x3 x4 x5 x6 x7 x8 hTk hRr hCr hM1r hM2r gA hPr
     generalize wr.alloc (.cells #[.string ⟨#[115]⟩,.int .i64 25,.int .i64 1,.int .i64 16,.int .i64 16,.slice (some ⟨TB,0,none⟩) 1 1,.slice none 0 0,.slice none 0 0,.int .i64 0] 73)=W3 at *
     have x:=hX.lt
     have x0:=(hX.cel.2 0 _ rfl).1
     have x5:=(hX.cel.2 5 _ rfl).1
     go_upto_region 11 with fail
     have hL:=Blk.new W3 [.slice none 0 0,.slice none 0 0,.slice none 0 0] 103
     have gA:=(Gr.refl W3).alloc (.cells #[.slice none 0 0,.slice none 0 0,.slice none 0 0] 103)
     have hX3:=hX.gr gA
     have hT3:=hT2.gr gA
     have hR3:=hR2.gr gA
     have hC3:=hC2.gr gA
     have hM13:=hM12.gr gA
     have hM23:=hM22.gr gA
     have hg3:=hg2.trans gA
     have hrs3:wr.heap.size<W3.heap.size:=hX.lt
     clear hX hT2 hR2 hC2 hM12 hM22 hg2 gA x x0 x5
     generalize W3.alloc (.cells #[.slice none 0 0,.slice none 0 0,.slice none 0 0] 103)=W4 at *
     generalize W3.heap.size=LB at *
     generalize wr.heap.size=X at *
     have x:=hX3.lt
     have x5:=(hX3.cel.2 5 _ rfl).1
     go_wp2
     clear x x5
     go_loopw [42] (fun v wx=>(v=.int .i64 0∧W4=wx)∨(v=.int .i64 1∧Gr w wx∧Blk wx X 73 [.string ⟨#[115]⟩,.int .i64 25,.int .i64 1,.int .i64 16,.int .i64 16,.slice (some ⟨TB,0,none⟩) 1 1,.slice none 0 0,.slice none 0 0,.int .i64 0]∧Blk wx (PB+1) 79 [.map none,.map none]∧Blk wx (PB+1+1+1+1) 79 [.map (some (PB+1+1)),.map (some (PB+1+1+1))]∧MapO wx (PB+1+1) 3 D∧MapO wx (PB+1+1+1) 0 (.map [])∧∃ ev pv,Blk wx LB 103 [tv,ev,pv]∧Rd wx ev ts.length 1 ((endsC 0 (ts.map CM.c)).map (Value.int .i64))∧Rd wx pv ts.length 20 (plsC (ts.map CM.c))∧(∀ k,ev.ownBlock=some k→LB<k)∧(∀ k,pv.ownBlock=some k→LB<k))) (fun v _=>1 - (RowKit.intOf v).toNat)
     case atStart=>exact .inl ⟨rfl,rfl⟩
     case round=>
      rcases hrel with ⟨rfl,rfl⟩ | ⟨rfl,hgx,hXx,hRx,hCx,hM1x,hM2x,ev,pv,hLx,hex,hpx,ge1,ge2⟩
      ·have y:=hT3.lt
       have y0:=(hT3.cel.2 0 _ rfl).1
       go_upto_region 14 with fail
       clear y y0 hT3
       have yl:=hL.lt
       go_wp2_with (go_at_call 40;(with_reducible refine (HL2.out _ hg3).mono ?_);rintro e w5 ⟨L,ev,pv,rfl,hLL,hLk,hLo,hg5,hex,hpx,ge1,ge2⟩;have hL5:=hL.gr hg5;have st:=stB hL5 (l:=L) (by rw [hLk,← hk3.out];rfl) hLo;have yl5:=hL5.lt)
       have hL6:Blk (w5.setRow LB L.toArray) LB 103 [tv,ev,pv]:=by
        rw [hLL.out]
        exact blk_set hL5 L
       have gS:=grown_setRow w5 LB L.toArray
       have ne:∀ b,LB≠b→(some LB:Option Nat)≠some b:=fun b hb e=>hb (by injection e)
       have e:=hPB.out
       have hge:∀ k,W4.heap.size≤k→LB<k:=fun k hk=>by omega
       have r1:=gr_setRow (hg3.trans hg5) (g:=LB) (by omega) L.toArray
       have r2:=(hX3.gr hg5).grown gS (ne _ (by omega))
       have r3:=(hR3.gr hg5).grown gS (ne _ (by omega))
       have r4:=(hC3.gr hg5).grown gS (ne _ (by omega))
       have r5:=(hM13.gr hg5).grown gS (ne _ (by omega))
       have r6:=(hM23.gr hg5).grown gS (ne _ (by omega))
       have r7:=Rd.grown gS (.inr (.inl fun e=>absurd (hge _ (ge1 _ e)) (Nat.lt_irrefl _))) hex
       have r8:=Rd.grown gS (.inr (.inl fun e=>absurd (hge _ (ge2 _ e)) (Nat.lt_irrefl _))) hpx
       clear hL5 hex hpx gS hX3 hR3 hC3 hM13 hM23 hg3 hL st
       go_roundw
       case rel=>exact .inr ⟨rfl,r1,r2,r3,r4,r5,r6,ev,pv,hL6,r7,r8,fun k hk=>hge k (ge1 k hk),fun k hk=>hge k (ge2 k hk)⟩
       case measure=>simp [RowKit.intOf]
      ·have z:=hCx.lt
       have z0:=(hCx.cel.2 1 _ rfl).1
       have x:=hXx.lt
       have x0:=(hXx.cel.2 0 _ rfl).1
       go_wp2_with (at_mapUpdate;refine wpList_mapUpdate_own _ rfl _ _ _ 77 rfl 9 99 keyed_str Tryz.underlying77 heldR (PB+1+1+1) 0 (.map []) rfl hM2x (by unfold maxLen;omega) (.string ⟨#[115]⟩) (.slice (some ⟨LB,0,none⟩) 1 1) (Lit.string [115]) rfl rfl (MapO.key ⟨#[115]⟩ (by unfold maxLen;decide)) (.held (.slice (some ⟨LB,0,none⟩) 1 1)) [] rfl ?_;intro w9 hown9 hgrow9)
       have ne:∀ b,PB+1+1+1≠b→(some (PB+1+1+1):Option Nat)≠some b:=fun b hb e=>hb (by injection e)
       have e:=hPB.out
       have hat:((DataW.map []:DataW Value).put (Lit.string [115]) (.held (.slice (some ⟨LB,0,none⟩) 1 1))).atKey (.string [115]) (.held (.slice none 0 0))=.held (.slice (some ⟨LB,0,none⟩) 1 1):=Maps.atKey_put_same ⟨[],rfl⟩ (show WideAt.IsKeyLit (Lit.string _) from trivial) _ _
       have hgr9:Gr w w9:=hgx.grown hgrow9 (fun k hk=>by injection hk with hk;omega)
       have r3:=hRx.grown hgrow9 (ne _ (by omega))
       have r4:=hCx.grown hgrow9 (ne _ (by omega))
       have r5:=hM1x.grown hgrow9 (ne _ (by omega))
       have r6:=hLx.grown hgrow9 (ne _ (by omega))
       have r7:=Rd.grown hgrow9 (.inr (.inl fun e=>absurd (ge1 _ e) (by omega))) hex
       have r8:=Rd.grown hgrow9 (.inr (.inl fun e=>absurd (ge2 _ e) (by omega))) hpx
       go_roundw
       case rel=>exact .inr ⟨rfl,hgr9,r3,r4,r5,LB,ev,pv,⟨_,_,hown9,hat⟩,r6,r7,r8,by omega,fun k hk=>by have:=ge1 k hk;omega,fun k hk=>by have:=ge2 k hk;omega⟩
       case measure=>simp [RowKit.intOf]
    ·have z:=hCx.lt
     have z0:=(hCx.cel.2 0 _ rfl).1
     have z1:=(hCx.cel.2 1 _ rfl).1
     have r0:=hRx.lt
     obtain⟨r1,v1⟩:=hRx.cel.2 0 _ rfl
     obtain⟨r2,v2⟩:=hRx.cel.2 1 _ rfl
     go_wp2
     simp [-Bool.exists_bool,-Bool.forall_bool,bodyPost,results,Tryz.results20,go_sem,r0,r1,r2]
     have g1:=grown_setCell wr ⟨PB+1,0,none⟩ (.map (some (PB+1+1)))
     have g2:=grown_setCell (wr.setCell ⟨PB+1,0,none⟩ (.map (some (PB+1+1)))) ⟨PB+1,1,none⟩ (.map (some (PB+1+1+1)))
     have e:=hPB.out
     have ne:∀ b,PB+1≠b→(some (PB+1):Option Nat)≠some b:=fun b hb e=>hb (by injection e)
     refine⟨_,_,⟨rfl,rfl⟩,(hgx.setCell (by show w.heap.size≤PB+1;omega) _).setCell (by show w.heap.size≤PB+1;omega) _,⟨3,D,(hM1x.grown g1 (ne _ (by omega))).grown g2 (ne _ (by omega)),hD⟩,lb,⟨n2,D2,(hM2x.grown g1 (ne _ (by omega))).grown g2 (ne _ (by omega)),hat2⟩,ev,pv,(hLx.grown g1 (ne _ (by omega))).grown g2 (ne _ (by omega)),?_,?_⟩
     ·exact Rd.grown g2 (.inr (.inl fun e=>absurd (ge1 _ e) (Nat.lt_irrefl _))) (Rd.grown g1 (.inr (.inl fun e=>absurd (ge1 _ e) (Nat.lt_irrefl _))) hex)
     ·exact Rd.grown g2 (.inr (.inl fun e=>absurd (ge2 _ e) (Nat.lt_irrefl _))) (Rd.grown g1 (.inr (.inl fun e=>absurd (ge2 _ e) (Nat.lt_irrefl _))) hpx)
end Go.Proofs.YtnginfangeikpaaGreatDoor
