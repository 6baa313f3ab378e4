/-
  Contracts: which lines of text are valid, of package timeline and of the reference.
  Conditions: the string has at most 2^47 bytes.
-/
import Derived.Test.YtnginfangeikpaaGreatDoorMem
import Derived.Test.YtnginfangeikpaaGreatDoorChecked
import Derived.WalkSpells
import Derived.WalkLawsBesides
import Derived.Test.YtnginfangeikpaaGreatDoorKit
import Derived.Deep.WholeRow
import Derived.Laws.Rows
import Derived.Great.BuildSlice
import Derived.Shelf.SlicesQ.Load
import Derived.Laws.CopyOwn
import Derived.Deep.DeepCutAuto
import Derived.Deep.CutBlock
namespace Go.Proofs.YtnginfangeikpaaGreatDoor
open Go.RowKit Go.Lib
set_option linter.unusedSimpArgs false
set_option linter.unusedVariables false
def okB (b:UInt8):Bool:=decide (32≤b.toNat) && decide (b.toNat≤126)
def vLine (s:ByteArray):Bool:=decide (1≤s.size) && decide (s.size≤64) && s.data.toList.all okB
set_option maxHeartbeats 1000000 in
theorem validLine_any (s:ByteArray) (w:World) (hs:s.size≤140737488355328) :
  Calls Tryz.prog 85 #[.string s] w fun e w'=>e=.returned (.bool (vLine s))∧Gr w w':=by
 obtain⟨R,hR⟩:∃ R,s.data.toList.all okB=R:=⟨_,rfl⟩
 unfold vLine
 rw [hR]
 have HS:Hid ((s.data.toList.drop 0).all okB=R):=hR
 clear hR
 by_cases h1:s.size<1
 ·have q1:decide (s.size<1)=true:=decide_eq_true h1
  go_enter Tryz.func85,Tryz.ntmps85
  go_wp2
  go_ret
  exact⟨by rw [decide_eq_false (by omega:¬ 1≤s.size)];rfl,(by repeat (first | with_reducible exact Gr.refl _ | with_reducible assumption | refine Gr.setCell ?_ (by first | omega | (simp;done) | (simp;omega)) _ | refine Gr.alloc ?_ _ | refine Gr.drew ?_ | refine Gr.drewN ?_ _ | refine Gr.trans ?_ (by with_reducible assumption)))⟩
 by_cases h2:64<s.size
 ·have q1:decide (s.size<1)=false:=decide_eq_false h1
  have q2:decide (64<s.size)=true:=decide_eq_true h2
  go_enter Tryz.func85,Tryz.ntmps85
  go_wp2
  go_ret
  exact⟨by rw [decide_eq_false (by omega:¬ s.size≤64)];simp,(by repeat (first | with_reducible exact Gr.refl _ | with_reducible assumption | refine Gr.setCell ?_ (by first | omega | (simp;done) | (simp;omega)) _ | refine Gr.alloc ?_ _ | refine Gr.drew ?_ | refine Gr.drewN ?_ _ | refine Gr.trans ?_ (by with_reducible assumption)))⟩
 have q1:decide (s.size<1)=false:=decide_eq_false h1
 have q2:decide (64<s.size)=false:=decide_eq_false h2
 rw [decide_eq_true (by omega:1≤s.size),decide_eq_true (by omega:s.size≤64)]
 go_enter Tryz.func85,Tryz.ntmps85
 go_wp2
 go_loop [3,14] (fun _ k=>∃ kk:Nat,kk≤s.size∧k=.int .i64 kk∧Hid ((s.data.toList.drop kk).all okB=R)) (fun _ k=>s.size - (RowKit.intOf k).toNat)
 case atStart=>exact⟨0,Nat.zero_le _,rfl,HS⟩
 case round=>
  obtain⟨kk,h3,rfl,hno⟩:=hrel
  clear HS
  by_cases c1:kk<s.size
  ·have q3:decide (kk<s.size)=true:=decide_eq_true c1
   have hd:=hno.out
   rw [ba_drop s kk c1,List.all_cons] at hd
   by_cases c2:(s[kk].toNat:Int)<32
   ·have q4:decide ((s[kk].toNat:Int)<32)=true:=decide_eq_true c2
    have hv:Hid (R=false):=by
     have:okB s[kk]=false:=by unfold okB;rw [decide_eq_false (by omega)];rfl
     rw [this] at hd
     exact hd.symm
    clear hd hno
    go_wp2
    go_ret
    exact⟨by rw [hv.out];rfl,(by repeat (first | with_reducible exact Gr.refl _ | with_reducible assumption | refine Gr.setCell ?_ (by first | omega | (simp;done) | (simp;omega)) _ | refine Gr.alloc ?_ _ | refine Gr.drew ?_ | refine Gr.drewN ?_ _ | refine Gr.trans ?_ (by with_reducible assumption)))⟩
   by_cases c3:126<(s[kk].toNat:Int)
   ·have q4:decide ((s[kk].toNat:Int)<32)=false:=decide_eq_false c2
    have q5:decide (126<(s[kk].toNat:Int))=true:=decide_eq_true c3
    have hv:Hid (R=false):=by
     have:okB s[kk]=false:=by unfold okB;rw [decide_eq_false (by omega:¬ s[kk].toNat≤126)];simp
     rw [this] at hd
     exact hd.symm
    clear hd hno
    go_wp2
    go_ret
    exact⟨by rw [hv.out];rfl,(by repeat (first | with_reducible exact Gr.refl _ | with_reducible assumption | refine Gr.setCell ?_ (by first | omega | (simp;done) | (simp;omega)) _ | refine Gr.alloc ?_ _ | refine Gr.drew ?_ | refine Gr.drewN ?_ _ | refine Gr.trans ?_ (by with_reducible assumption)))⟩
   have q4:decide ((s[kk].toNat:Int)<32)=false:=decide_eq_false c2
   have q5:decide (126<(s[kk].toNat:Int))=false:=decide_eq_false c3
   have hv:Hid ((s.data.toList.drop (kk+1)).all okB=R):=by
    have:okB s[kk]=true:=by unfold okB;rw [decide_eq_true (by omega),decide_eq_true (by omega)];rfl
    rw [this] at hd
    exact hd
   clear hd hno
   go_wp2
   exact⟨⟨kk+1,by omega,by go_num,hv⟩,by simp [RowKit.intOf];omega⟩
  ·have q3:decide (kk<s.size)=false:=decide_eq_false c1
   have hv:Hid (R=true):=by
    have hd:=hno.out
    rw [ba_drop_end s kk (by omega)] at hd
    exact hd.symm
   clear hno
   go_wp2
   go_ret
   exact⟨by rw [hv.out];rfl,(by repeat (first | with_reducible exact Gr.refl _ | with_reducible assumption | refine Gr.setCell ?_ (by first | omega | (simp;done) | (simp;omega)) _ | refine Gr.alloc ?_ _ | refine Gr.drew ?_ | refine Gr.drewN ?_ _ | refine Gr.trans ?_ (by with_reducible assumption)))⟩
def vCue (f t:Int) (ss:List ByteArray):Bool:=decide (0≤f∧f<t∧t≤2147483647∧1≤ss.length∧ss.length≤4) && ss.all vLine
theorem vCue_no {f t:Int} {ss:List ByteArray} (h:¬ (0≤f∧f<t∧t≤2147483647∧1≤ss.length∧ss.length≤4)):vCue f t ss=false:=by unfold vCue;rw [decide_eq_false h];rfl
theorem vCue_yes {f t:Int} {ss:List ByteArray} (h:0≤f∧f<t∧t≤2147483647∧1≤ss.length∧ss.length≤4):vCue f t ss=ss.all vLine:=by unfold vCue;rw [decide_eq_true h];rfl
set_option maxHeartbeats 2000000 in
theorem validCue_any (f t:Int) (lv:Value) (ss:List ByteArray) (w:World) (hf:-9223372036854775808≤f∧f≤9223372036854775807) (ht:-9223372036854775808≤t∧t≤9223372036854775807)
  (hS:StrsR w lv ss) (hz:∀ s∈ss,s.size≤140737488355328) (hl:ss.length≤140737488355328) :
  Calls Tryz.prog 120 #[.agg #[.int .i64 f,.int .i64 t,lv]] w fun e w'=>e=.returned (.bool (vCue f t ss))∧Gr w w':=by
 obtain⟨a,cap,rfl,ha⟩:=hS.shape
 clear hS
 by_cases g1:f<0
 ·rw [vCue_no (by omega)]
  have q1:decide (f<0)=true:=decide_eq_true g1
  go_enter Tryz.func120,Tryz.ntmps120
  go_wp2
  go_ret
  exact⟨rfl,(by repeat (first | with_reducible exact Gr.refl _ | with_reducible assumption | refine Gr.setCell ?_ (by first | omega | (simp;done) | (simp;omega)) _ | refine Gr.alloc ?_ _ | refine Gr.drew ?_ | refine Gr.drewN ?_ _ | refine Gr.trans ?_ (by with_reducible assumption)))⟩
 have q1:decide (f<0)=false:=decide_eq_false g1
 by_cases g2:t≤f
 ·rw [vCue_no (by omega)]
  have q2:decide (t≤f)=true:=decide_eq_true g2
  go_enter Tryz.func120,Tryz.ntmps120
  go_wp2
  go_ret
  exact⟨rfl,(by repeat (first | with_reducible exact Gr.refl _ | with_reducible assumption | refine Gr.setCell ?_ (by first | omega | (simp;done) | (simp;omega)) _ | refine Gr.alloc ?_ _ | refine Gr.drew ?_ | refine Gr.drewN ?_ _ | refine Gr.trans ?_ (by with_reducible assumption)))⟩
 have q2:decide (t≤f)=false:=decide_eq_false g2
 by_cases g3:2147483647<t
 ·rw [vCue_no (by omega)]
  have q3:decide (2147483647<t)=true:=decide_eq_true g3
  go_enter Tryz.func120,Tryz.ntmps120
  go_wp2
  go_ret
  exact⟨rfl,(by repeat (first | with_reducible exact Gr.refl _ | with_reducible assumption | refine Gr.setCell ?_ (by first | omega | (simp;done) | (simp;omega)) _ | refine Gr.alloc ?_ _ | refine Gr.drew ?_ | refine Gr.drewN ?_ _ | refine Gr.trans ?_ (by with_reducible assumption)))⟩
 have q3:decide (2147483647<t)=false:=decide_eq_false g3
 by_cases g4:ss.length<1
 ·rw [vCue_no (by omega)]
  have q4:decide (ss.length<1)=true:=decide_eq_true g4
  go_enter Tryz.func120,Tryz.ntmps120
  go_wp2
  go_ret
  exact⟨rfl,(by repeat (first | with_reducible exact Gr.refl _ | with_reducible assumption | refine Gr.setCell ?_ (by first | omega | (simp;done) | (simp;omega)) _ | refine Gr.alloc ?_ _ | refine Gr.drew ?_ | refine Gr.drewN ?_ _ | refine Gr.trans ?_ (by with_reducible assumption)))⟩
 have q4:decide (ss.length<1)=false:=decide_eq_false g4
 by_cases g5:4<ss.length
 ·rw [vCue_no (by omega)]
  have q5:decide (4<ss.length)=true:=decide_eq_true g5
  go_enter Tryz.func120,Tryz.ntmps120
  go_wp2
  go_ret
  exact⟨rfl,(by repeat (first | with_reducible exact Gr.refl _ | with_reducible assumption | refine Gr.setCell ?_ (by first | omega | (simp;done) | (simp;omega)) _ | refine Gr.alloc ?_ _ | refine Gr.drew ?_ | refine Gr.drewN ?_ _ | refine Gr.trans ?_ (by with_reducible assumption)))⟩
 have q5:decide (4<ss.length)=false:=decide_eq_false g5
 rw [vCue_yes (by omega)]
 rcases ha with ha | ⟨b,o,rfl,hb,hc⟩
 ·omega
 obtain⟨R,hR⟩:∃ R,ss.all vLine=R:=⟨_,rfl⟩
 rw [hR]
 have HS:Hid ((ss.drop 0).all vLine=R):=hR
 clear hR
 have hc:=Lib.hid hc
 go_enter Tryz.func120,Tryz.ntmps120
 go_wp2
 go_loopw [4,35] (fun _ k wr=>∃ kk:Nat,kk≤ss.length∧k=.int .i64 kk∧Hid ((ss.drop kk).all vLine=R)∧Gr w wr) (fun _ k _=>ss.length - (RowKit.intOf k).toNat)
 case atStart=>exact⟨0,Nat.zero_le _,rfl,HS,(by repeat (first | with_reducible exact Gr.refl _ | with_reducible assumption | refine Gr.setCell ?_ (by first | omega | (simp;done) | (simp;omega)) _ | refine Gr.alloc ?_ _ | refine Gr.drew ?_ | refine Gr.drewN ?_ _ | refine Gr.trans ?_ (by with_reducible assumption)))⟩
 case round=>
  obtain⟨kk,h3,rfl,hno,hg⟩:=hrel
  clear HS
  obtain⟨hcg,hfg⟩:=hg.cells
  by_cases c1:kk<ss.length
  ·have q6:decide (kk<ss.length)=true:=decide_eq_true c1
   have hd:=hno.out
   rw [List.drop_eq_getElem_cons c1,List.all_cons] at hd
   have hcell:wr.cell? ⟨b,o+kk,none⟩=some (.string ss[kk]):=(hcg b _ hb).trans (hc.out kk c1)
   have hzk:=hz ss[kk] (List.getElem_mem c1)
   generalize ss[kk]=sk at hd hcell hzk
   cases hv:vLine sk with
   | false=>
    rw [hv] at hd
    have hV:Hid (R=false):=hd.symm
    have HL:Hid (∀ w,Calls Tryz.prog 85 #[.string sk] w fun e w'=>e=.returned (.bool false)∧Gr w w'):=fun w=>by rw [← hv];exact validLine_any sk w hzk
    clear hd hno hv hz hc hcg hfg
    go_wp2_with (go_at_call 85;with_reducible refine (HL.out _).mono ?_;rintro e w1 ⟨rfl,hg1⟩)
    go_ret
    exact⟨by rw [hV.out];rfl,(by repeat (first | with_reducible exact Gr.refl _ | with_reducible assumption | refine Gr.setCell ?_ (by first | omega | (simp;done) | (simp;omega)) _ | refine Gr.alloc ?_ _ | refine Gr.drew ?_ | refine Gr.drewN ?_ _ | refine Gr.trans ?_ (by with_reducible assumption)))⟩
   | true=>
    rw [hv] at hd
    have hV:Hid ((ss.drop (kk+1)).all vLine=R):=hd
    have HL:Hid (∀ w,Calls Tryz.prog 85 #[.string sk] w fun e w'=>e=.returned (.bool true)∧Gr w w'):=fun w=>by rw [← hv];exact validLine_any sk w hzk
    clear hd hno hv hz hc hcg hfg
    go_wp2_with (go_at_call 85;with_reducible refine (HL.out _).mono ?_;rintro e w1 ⟨rfl,hg1⟩)
    go_roundw
    case rel=>exact⟨kk+1,by omega,by go_num,hV,(by repeat (first | with_reducible exact Gr.refl _ | with_reducible assumption | refine Gr.setCell ?_ (by first | omega | (simp;done) | (simp;omega)) _ | refine Gr.alloc ?_ _ | refine Gr.drew ?_ | refine Gr.drewN ?_ _ | refine Gr.trans ?_ (by with_reducible assumption)))⟩
    case measure=>simp [RowKit.intOf];omega
  ·have q6:decide (kk<ss.length)=false:=decide_eq_false c1
   have hV:Hid (R=true):=by
    have hd:=hno.out
    rw [List.drop_of_length_le (by omega)] at hd
    exact hd.symm
   clear hno hc hz
   go_wp2
   go_ret
   exact⟨by rw [hV.out];rfl,(by repeat (first | with_reducible exact Gr.refl _ | with_reducible assumption | refine Gr.setCell ?_ (by first | omega | (simp;done) | (simp;omega)) _ | refine Gr.alloc ?_ _ | refine Gr.drew ?_ | refine Gr.drewN ?_ _ | refine Gr.trans ?_ (by with_reducible assumption)))⟩
structure CuOk (c:Cu):Prop where
 f1:-9223372036854775808≤c.f
 f2:c.f≤9223372036854775807
 t1:-9223372036854775808≤c.t
 t2:c.t≤9223372036854775807
 n:c.ss.length≤140737488355328
 s:∀ s∈c.ss,s.size≤140737488355328
structure Cues (W:World) (v:Value) (cs:List Cu):Prop where
 at_:CuesR W v cs
 ok:∀ c∈cs,CuOk c
 n:cs.length≤3518437208883
theorem Cues.gr {W w:World} {v:Value} {cs:List Cu} (hg:Gr W w) (h:Cues W v cs):Cues w v cs:=⟨h.at_.gr hg,h.ok,h.n⟩
def vCu (c:Cu):Bool:=vCue c.f c.t c.ss
def vCues (cs:List Cu):Bool:=cs.all vCu
abbrev AC:=Int × Int × List ByteArray
end Go.Proofs.YtnginfangeikpaaGreatDoor

namespace Go.Proofs.YtnginfangeikpaaGreatDoor
open Go.RowKit Go.Lib
set_option linter.unusedVariables false
inductive Lf where
 | blk:Lf
 | src:ByteArray→Int→Lf
 deriving DecidableEq
inductive Ex2 where
 | lf:Lf→Ex2
 | mx:Int→Int→Int→Int→Lf→Lf→Ex2
def redX (op num den par:Int) (a b:Lf):Ex2:=if a=b then .lf a else .mx op num den par a b
abbrev noTxE:ByteArray:=⟨#[]⟩
def exC (op:Int) (m:ByteArray) (fr num den par:Int) (tx:ByteArray) (av:Value):List Value:=[.int .i64 op,.string m,.int .i64 fr,.int .i64 num,.int .i64 den,.int .i64 par,.string tx,av]
def lfO:Lf→Int
 | .blk=>0
 | .src _ _=>1
def lfM:Lf→ByteArray
 | .blk=>noTxE
 | .src r _=>r
def lfF:Lf→Int
 | .blk=>0
 | .src _ n=>n
def lfC (l:Lf) (av:Value):List Value:=exC (lfO l) (lfM l) (lfF l) 0 0 0 noTxE av
theorem lf_inj {a b:Lf} (h0:lfO a=lfO b) (h1:lfM a=lfM b) (h2:lfF a=lfF b):a=b:=by
 cases a <;> cases b
 ·rfl
 ·cases h0
 ·cases h0
 ·have h1:(_:ByteArray)=_:=h1
  have h2:(_:Int)=_:=h2
  simp only [lfM,lfF] at h1 h2
  rw [h1,h2]
theorem lfC_len (l:Lf) (av:Value):(lfC l av).length=8:=rfl
def NoV (av:Value):Prop:=av=.slice none 0 0
theorem NoV.e {av:Value} (h:NoV av):∃ a c,av=.slice a 0 c:=⟨none,0,h⟩
theorem exC_one (op:Int) (m:ByteArray) (fr num den par:Int) (tx:ByteArray) (a:Option Addr) (n c:Nat):∀ v∈exC op m fr num den par tx (.slice a n c),v.oneCell'=true:=by
 intro v hv
 unfold exC at hv
 simp only [List.mem_cons,List.not_mem_nil,or_false] at hv
 rcases hv with rfl | rfl | rfl | rfl | rfl | rfl | rfl | rfl <;> rfl
def ExR (w:World) (cs:List Value):Ex2→Prop
 | .lf l=>∃ av,NoV av∧cs=lfC l av
 | .mx op num den par x y=>∃ a c a1 a2,NoV a1∧NoV a2∧cs=exC op noTxE 0 num den par noTxE (.slice a 2 c)∧Rd w (.slice a 2 c) 2 8 (lfC x a1 ++ lfC y a2)
theorem ExR.gr {w w':World} {cs:List Value} {x:Ex2} (hg:Gr w w') (h:ExR w cs x):ExR w' cs x:=by
 cases x with
 | lf l=>exact h
 | mx op num den par x y=>
  obtain⟨a,c,a1,a2,h1,h2,h3,h4⟩:=h
  exact⟨a,c,a1,a2,h1,h2,h3,h4.gr hg⟩
theorem ExR.len {w:World} {cs:List Value} {x:Ex2} (h:ExR w cs x):cs.length=8:=by
 cases x with
 | lf l=>
  obtain⟨av,_,rfl⟩:=h
  rfl
 | mx op num den par x y=>
  obtain⟨a,c,a1,a2,h1,h2,rfl,h4⟩:=h
  rfl
theorem ExR.one {w:World} {cs:List Value} {x:Ex2} (h:ExR w cs x):∀ v∈cs,v.oneCell'=true:=by
 cases x with
 | lf l=>
  obtain⟨av,hn,rfl⟩:=h
  obtain⟨a,c,rfl⟩:=hn.e
  exact exC_one _ _ _ _ _ _ _ _ _ _
 | mx op num den par x y=>
  obtain⟨a,c,a1,a2,h1,h2,rfl,h4⟩:=h
  exact exC_one _ _ _ _ _ _ _ _ _ _
def ExF (b:Nat) (w:World) (cs:List Value):Ex2→Prop
 | .lf l=>∃ av,NoV av∧cs=lfC l av
 | .mx op num den par x y=>∃ g o c a1 a2,b≤g∧NoV a1∧NoV a2∧cs=exC op noTxE 0 num den par noTxE (.slice (some ⟨g,o,none⟩) 2 c)∧Rd w (.slice (some ⟨g,o,none⟩) 2 c) 2 8 (lfC x a1 ++ lfC y a2)
theorem ExF.r {b:Nat} {w:World} {cs:List Value} {x:Ex2} (h:ExF b w cs x):ExR w cs x:=by
 cases x with
 | lf l=>exact h
 | mx op num den par x y=>
  obtain⟨g,o,c,a1,a2,h0,h1,h2,h3,h4⟩:=h
  exact⟨_,c,a1,a2,h1,h2,h3,h4⟩
theorem ExF.gr {b:Nat} {w w':World} {cs:List Value} {x:Ex2} (hg:Gr w w') (h:ExF b w cs x):ExF b w' cs x:=by
 cases x with
 | lf l=>exact h
 | mx op num den par x y=>
  obtain⟨g,o,c,a1,a2,h0,h1,h2,h3,h4⟩:=h
  exact⟨g,o,c,a1,a2,h0,h1,h2,h3,h4.gr hg⟩
theorem ExF.less {b b2:Nat} {w:World} {cs:List Value} {x:Ex2} (h:ExF b w cs x) (hb:b2≤b):ExF b2 w cs x:=by
 cases x with
 | lf l=>exact h
 | mx op num den par x y=>
  obtain⟨g,o,c,a1,a2,h0,h1,h2,h3,h4⟩:=h
  exact⟨g,o,c,a1,a2,by omega,h1,h2,h3,h4⟩
theorem ExF.setRow {b k:Nat} {w:World} {cs:List Value} {x:Ex2} (h:ExF b w cs x) (hk:k<b) (l:Array Value):ExF b (w.setRow k l) cs x:=by
 cases x with
 | lf l=>exact h
 | mx op num den par x y=>
  obtain⟨g,o,c,a1,a2,h0,h1,h2,h3,h4⟩:=h
  refine⟨g,o,c,a1,a2,h0,h1,h2,h3,Rd.grown (W:=w) (row:=some k) ⟨rfl,rfl,rfl,by simp,fun j _ hj=>Go.setRow_other w k j l (fun e=>hj (by rw [e]))⟩ (.inr (.inl ?_)) h4⟩
  simp [Value.ownBlock]
  omega
theorem ExF.setCell {b:Nat} {w:World} {cs:List Value} {x:Ex2} (h:ExF b w cs x) {p:Addr} (hk:p.block<b) (u:Value):ExF b (w.setCell p u) cs x:=by
 cases x with
 | lf l=>exact h
 | mx op num den par x y=>
  obtain⟨g,o,c,a1,a2,h0,h1,h2,h3,h4⟩:=h
  refine⟨g,o,c,a1,a2,h0,h1,h2,h3,Rd.grown (row:=some p.block) (grown_setCell w p u) (.inr (.inl ?_)) h4⟩
  simp [Value.ownBlock]
  omega
theorem mx_cells {w:World} {a:Option Addr} {c:Nat} {x y:Lf} {a1 a2:Value} (h:Rd w (.slice a 2 c) 2 8 (lfC x a1 ++ lfC y a2)) :
  ∃ b o,a=some ⟨b,o,none⟩∧b<w.heap.size∧(∀ (j:Nat) u,(lfC x a1)[j]?=some u→w.cell? ⟨b,o+j,none⟩=some u)∧(∀ (j:Nat) u,(lfC y a2)[j]?=some u→w.cell? ⟨b,o+8+j,none⟩=some u):=by
 obtain⟨_,a',c',e,h0 | ⟨b,o,rfl,hb,hc⟩⟩:=h
 ·omega
 ·injection e with e1 e2 e3
  refine⟨b,o,e1,hb,fun j u hu=>hc j u ?_,fun j u hu=>?_⟩
  ·rw [List.getElem?_append_left (List.getElem?_eq_some_iff.1 hu).1];exact hu
  ·have:=hc (8+j) u (by rw [List.getElem?_append_right (by rw [lfC_len];omega),lfC_len,Nat.add_sub_cancel_left];exact hu)
   rwa [← Nat.add_assoc] at this
end Go.Proofs.YtnginfangeikpaaGreatDoor

namespace Go.Proofs.YtnginfangeikpaaGreatDoor
open Go.RowKit Go.Lib
set_option linter.unusedSimpArgs false
set_option linter.unusedVariables false
theorem infoExpr:(Tryz.prog.info? 41).map (·.size)=some 8:=by kernel_rfl
set_option maxRecDepth 20000 in
set_option maxHeartbeats 2000000 in
theorem eqE_nil (a1 a2:Option Addr) (c1 c2:Nat) (f:Value) (w:World) :
  Calls Tryz.prog 24 #[.slice a1 0 c1,.slice a2 0 c2,f] w fun e w'=>e=.returned (.bool true)∧Gr w w':=by
 go_enter Tryz.func24,Tryz.ntmps24
 go_wp2
 go_loopw [17] (fun i wr=>i=.int .i64 0∧Gr w wr) (fun _ _=>0)
 case atStart=>exact⟨rfl,Gr.refl _⟩
 case round=>
  obtain⟨rfl,hg⟩:=hrel
  go_wp2
  go_ret
  exact⟨rfl,hg⟩
set_option maxRecDepth 20000 in
set_option maxHeartbeats 4000000 in
theorem same_cells (o1 o2:Int) (m1 m2:ByteArray) (f1 f2:Int) (a1 a2:Option Addr) (c1 c2:Nat) (w:World) :
  Calls Tryz.prog 10 #[.agg #[.int .i64 o1,.string m1,.int .i64 f1,.int .i64 0,.int .i64 0,.int .i64 0,.string noTxE,.slice a1 0 c1],.agg #[.int .i64 o2,.string m2,.int .i64 f2,.int .i64 0,.int .i64 0,.int .i64 0,.string noTxE,.slice a2 0 c2]] w fun e w'=>e=.returned (.bool (decide (o1=o2∧m1=m2∧f1=f2)))∧Gr w w':=by
 have HE:Hid (∀ w',Calls Tryz.prog 24 #[.slice a1 0 c1,.slice a2 0 c2,.func (.func 10) #[] #[]] w' fun e w''=>e=.returned (.bool true)∧Gr w' w''):=Lib.hid fun w'=>eqE_nil a1 a2 c1 c2 _ w'
 obtain⟨R,hR⟩:∃ R,decide (o1=o2∧m1=m2∧f1=f2)=R:=⟨_,rfl⟩
 rw [hR]
 by_cases h1:o1=o2
 ·have r1:(o1 == o2)=true:=by simp [h1]
  by_cases h2:m1=m2
  ·have r2:(m1.toList == m2.toList)=true:=by rw [h2];simp
   by_cases h3:f1=f2
   ·have r3:(f1 == f2)=true:=by simp [h3]
    have hR2:R=true:=by rw [← hR];exact decide_eq_true ⟨h1,h2,h3⟩
    clear hR h1 h2 h3
    go_enter Tryz.func10,Tryz.ntmps10
    go_wp2_with (go_at_call 24;(with_reducible refine (HE.out _).mono ?_);rintro e w2 ⟨rfl,hg2⟩)
    go_ret
    exact⟨by rw [hR2];rfl,(by repeat (first | with_reducible exact Gr.refl _ | with_reducible assumption | refine Gr.setCell ?_ (by first | omega | (simp;done) | (simp;omega)) _ | refine Gr.alloc ?_ _ | refine Gr.drew ?_ | refine Gr.drewN ?_ _ | refine Gr.trans ?_ (by with_reducible assumption)))⟩
   ·have r3:(f1 == f2)=false:=by simp [h3]
    have hR2:R=false:=by rw [← hR];exact decide_eq_false (fun h=>h3 h.2.2)
    clear hR h1 h2 h3
    go_enter Tryz.func10,Tryz.ntmps10
    go_wp2
    go_ret
    exact⟨by rw [hR2];rfl,(by repeat (first | with_reducible exact Gr.refl _ | with_reducible assumption | refine Gr.setCell ?_ (by first | omega | (simp;done) | (simp;omega)) _ | refine Gr.alloc ?_ _ | refine Gr.drew ?_ | refine Gr.drewN ?_ _ | refine Gr.trans ?_ (by with_reducible assumption)))⟩
  ·have r2:(m1.toList == m2.toList)=false:=ba_neq h2
   have hR2:R=false:=by rw [← hR];exact decide_eq_false (fun h=>h2 h.2.1)
   clear hR h1 h2
   go_enter Tryz.func10,Tryz.ntmps10
   go_wp2
   go_ret
   exact⟨by rw [hR2];rfl,(by repeat (first | with_reducible exact Gr.refl _ | with_reducible assumption | refine Gr.setCell ?_ (by first | omega | (simp;done) | (simp;omega)) _ | refine Gr.alloc ?_ _ | refine Gr.drew ?_ | refine Gr.drewN ?_ _ | refine Gr.trans ?_ (by with_reducible assumption)))⟩
 ·have r1:(o1 == o2)=false:=by simp [h1]
  have hR2:R=false:=by rw [← hR];exact decide_eq_false (fun h=>h1 h.1)
  clear hR h1
  go_enter Tryz.func10,Tryz.ntmps10
  go_wp2
  go_ret
  exact⟨by rw [hR2];rfl,(by repeat (first | with_reducible exact Gr.refl _ | with_reducible assumption | refine Gr.setCell ?_ (by first | omega | (simp;done) | (simp;omega)) _ | refine Gr.alloc ?_ _ | refine Gr.drew ?_ | refine Gr.drewN ?_ _ | refine Gr.trans ?_ (by with_reducible assumption)))⟩
theorem same_lf (x y:Lf) (a1 a2:Value) (h1:NoV a1) (h2:NoV a2) (w:World) :
  Calls Tryz.prog 10 #[.agg (lfC x a1).toArray,.agg (lfC y a2).toArray] w fun e w'=>e=.returned (.bool (decide (x=y)))∧Gr w w':=by
 obtain⟨b1,c1,rfl⟩:=h1.e
 obtain⟨b2,c2,rfl⟩:=h2.e
 refine (same_cells (lfO x) (lfO y) (lfM x) (lfM y) (lfF x) (lfF y) b1 b2 c1 c2 w).mono fun e w' ⟨he,hg⟩=>⟨?_,hg⟩
 rw [he,show decide (lfO x=lfO y∧lfM x=lfM y∧lfF x=lfF y)=decide (x=y) from decide_eq_decide.2 ⟨fun h=>lf_inj h.1 h.2.1 h.2.2,fun h=>by rw [h];exact⟨rfl,rfl,rfl⟩⟩]
theorem ldE {w:World} {b q k:Nat} {l:List Value} (hk:l.length=k) (h:∀ (j:Nat) (u:Value),l[j]?=some u→w.cell? ⟨b,q+j,none⟩=some u) :
  Sem.run Tryz.prog (loadCellsFrom ⟨b,q,none⟩ 0 k #[]) w=.ok l.toArray w:=run_loadCellsFrom_list Tryz.prog w ⟨b,q,none⟩ l k hk fun j v hv=>by
 have:=h j v hv
 simpa [Addr.add_lit] using this
theorem stE (w:World) (l:List Value) (hl:l.length=8) (h1:∀ v∈l,v.oneCell'=true) :
  Sem.run Tryz.prog (storeCells ⟨w.heap.size,0,none⟩ l 0) (w.alloc (.cells #[.int .i64 0,.string ⟨#[]⟩,.int .i64 0,.int .i64 0,.int .i64 0,.int .i64 0,.string ⟨#[]⟩,.slice none 0 0] 41))=.ok () (w.alloc (.cells l.toArray 41)):=by
 have:=run_storeCells_new (P:=Tryz.prog) w 41 #[.int .i64 0,.string ⟨#[]⟩,.int .i64 0,.int .i64 0,.int .i64 0,.int .i64 0,.string ⟨#[]⟩,.slice none 0 0] l.toArray (by rw [List.size_toArray,hl];exact infoExpr) (by show 8=l.toArray.size;rw [List.size_toArray,hl]) (by simpa using h1)
 simpa using this
set_option maxRecDepth 20000 in
set_option maxHeartbeats 4000000 in
theorem eqE_two (k:Nat) (hk8:8=k) (x y:Lf) (a b:Option Addr) (c d:Nat) (a1 a2 b1 b2:Value) (w:World) (h1:NoV a1) (h2:NoV a2) (h3:NoV b1) (h4:NoV b2)
  (hA:Rd w (.slice a 2 c) 2 8 (lfC x a1 ++ lfC y a2)) (hB:Rd w (.slice b 2 d) 2 8 (lfC x b1 ++ lfC y b2)) :
  Calls Tryz.prog 24 #[.slice a 2 c,.slice b 2 d,.func (.func 10) #[] #[]] w fun e w'=>e=.returned (.bool true)∧Gr w w':=by
 have aE:∀ w,(isAgg 41).run Tryz.prog w=.ok true w:=Tryz.isAgg41
 have zE:∀ w,(Go.sizeOf 41).run Tryz.prog w=.ok k w:=fun w=>by rw [← hk8];exact Tryz.sizeOf41 w
 obtain⟨ba,oa,rfl,hba,ca1,ca2⟩:=mx_cells hA
 obtain⟨bb,ob,rfl,hbb,cb1,cb2⟩:=mx_cells hB
 replace hk8:=Lib.hid hk8
 have hcell:Hid (∀ i:Nat,i<2→∃ (z:Lf) (u v:Value),NoV u∧NoV v∧(∀ (j:Nat) q,(lfC z u)[j]?=some q→w.cell? ⟨ba,oa+i * 8+j,none⟩=some q)∧(∀ (j:Nat) q,(lfC z v)[j]?=some q→w.cell? ⟨bb,ob+i * 8+j,none⟩=some q)):=Lib.hid fun i hi=>by
  rcases (show i=0∨i=1 by omega) with rfl | rfl
  ·exact⟨x,a1,b1,h1,h3,by simpa using ca1,by simpa using cb1⟩
  ·exact⟨y,a2,b2,h2,h4,by simpa using ca2,by simpa using cb2⟩
 clear ca1 ca2 cb1 cb2 hA hB
 go_enter Tryz.func24,Tryz.ntmps24
 go_wp2
 go_loopw [17] (fun i wr=>∃ j:Nat,j≤2∧i=.int .i64 j∧Gr w wr) (fun i _=>2 - (RowKit.intOf i).toNat)
 case atStart=>exact⟨0,by omega,rfl,Gr.refl _⟩
 case round=>
  obtain⟨j,hj,rfl,hg⟩:=hrel
  by_cases cc:j<2
  ·have q1:decide ((j:Int)<2)=true:=decide_eq_true (by omega)
   have i1:(0:Int)≤(j:Int)∧(j:Int)<2:=by omega
   obtain⟨z,u,v,hu,hv,hz1,hz2⟩:=hcell.out j cc
   have hS:Hid (∀ w',Calls Tryz.prog 10 #[.agg (lfC z u).toArray,.agg (lfC z v).toArray] w' fun e w''=>e=.returned (.bool true)∧Gr w' w''):=Lib.hid fun w'=>by
    have:=same_lf z z u v hu hv w'
    rwa [decide_eq_true rfl] at this
   have hone1:∀ q∈lfC z u,q.oneCell'=true:=by obtain⟨p,q,rfl⟩:=hu.e;exact exC_one _ _ _ _ _ _ _ _ _ _
   have hone2:∀ q∈lfC z v,q.oneCell'=true:=by obtain⟨p,q,rfl⟩:=hv.e;exact exC_one _ _ _ _ _ _ _ _ _ _
   obtain⟨l1,hl1⟩:∃ l1,lfC z u=l1:=⟨_,rfl⟩
   obtain⟨l2,hl2⟩:∃ l2,lfC z v=l2:=⟨_,rfl⟩
   have hn1:l1.length=8:=by rw [← hl1];rfl
   have hn2:l2.length=8:=by rw [← hl2];rfl
   rw [hl1] at hS hz1 hone1
   rw [hl2] at hS hz2 hone2
   have la1:Sem.run Tryz.prog (loadCellsFrom ⟨ba,oa+j * k,none⟩ 0 k #[]) wr=.ok l1.toArray wr:=by
    rw [← hk8.out]
    exact ldE hn1 fun y u hu=>(hg.cells.1 ba _ hba).trans (hz1 y u hu)
   have st1:=stE wr l1 hn1 hone1
   have hbx:=Blk.new wr l1 41
   have hgA:Gr wr (wr.alloc (.cells l1.toArray 41)):=(Gr.refl wr).alloc _
   have hba':ba<wr.heap.size:=Nat.lt_of_lt_of_le hba hg.size
   have hbb':bb<wr.heap.size:=Nat.lt_of_lt_of_le hbb hg.size
   have hk1:l1.length=k:=by rw [← hk8.out];exact hn1
   have hk2:l2.length=k:=by rw [← hk8.out];exact hn2
   replace hn1:=Lib.hid hn1
   replace hn2:=Lib.hid hn2
   clear hl1 hl2
   go_upto_region 6 with fail
   generalize wr.alloc (.cells l1.toArray 41)=W1 at *
   obtain⟨X,hX⟩:∃ X,wr.heap.size=X:=⟨_,rfl⟩
   rw [hX] at hbx ⊢
   clear la1 st1 hX
   have hgwA:=hg.trans hgA
   have la2:Sem.run Tryz.prog (loadCellsFrom ⟨bb,ob+j * k,none⟩ 0 k #[]) W1=.ok l2.toArray W1:=by
    rw [← hk8.out]
    exact ldE hn2.out fun y u hu=>(hgwA.cells.1 bb _ hbb).trans (hz2 y u hu)
   have st2:=stE W1 l2 hn2.out hone2
   have hby:=Blk.new W1 l2 41
   have hgB:Gr W1 (W1.alloc (.cells l2.toArray 41)):=(Gr.refl W1).alloc _
   go_upto_region 7 with fail
   generalize W1.alloc (.cells l2.toArray 41)=W2 at *
   obtain⟨Y,hY⟩:∃ Y,W1.heap.size=Y:=⟨_,rfl⟩
   rw [hY] at hby ⊢
   have hbx2:=hbx.gr hgB
   have hgAB:=hgA.trans hgB
   have lb1:=ldE (q:=0) hk1 fun y u hu=>by have:=(hbx2.cel.2 y u hu).1;simpa using this
   have lb2:=ldE (q:=0) hk2 fun y u hu=>by have:=(hby.cel.2 y u hu).1;simpa using this
   clear la2 st2 hY hbx hgB hbx2 hby
   go_wp2_with (go_at_call 10;(with_reducible refine (hS.out _).mono ?_);rintro e w3 ⟨rfl,hg3⟩)
   go_roundw
   case rel=>exact⟨j+1,by omega,by go_num,(hg.trans hgAB).trans hg3⟩
   case measure=>simp [RowKit.intOf];omega
  ·have q1:decide ((j:Int)<2)=false:=decide_eq_false (by omega)
   go_wp2
   go_ret
   exact⟨rfl,hg⟩
end Go.Proofs.YtnginfangeikpaaGreatDoor
