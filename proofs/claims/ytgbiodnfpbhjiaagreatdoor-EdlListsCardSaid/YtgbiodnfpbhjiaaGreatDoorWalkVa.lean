/-
  Contracts: which lines of text are valid, of package timeline and of the reference.
  Conditions: the string has at most 2^47 bytes.
-/
import Derived.Test.YtgbiodnfpbhjiaaGreatDoorMem
import Derived.Test.YtgbiodnfpbhjiaaGreatDoorChecked
import Derived.WalkSpells
import Derived.WalkLawsBesides
import Derived.Test.YtgbiodnfpbhjiaaGreatDoorKit
namespace Go.Proofs.YtgbiodnfpbhjiaaGreatDoor
open Go.RowKit Go.Lib
set_option linter.unusedSimpArgs false
set_option linter.unusedVariables false
def okB (b:UInt8):Bool:=decide (32≤b.toNat) && decide (b.toNat≤126)
def vLine (s:ByteArray):Bool:=decide (1≤s.size) && decide (s.size≤64) && s.data.toList.all okB
set_option maxHeartbeats 1000000 in
theorem validLine_any (s:ByteArray) (w:World) (hs:s.size≤140737488355328) :
  Calls Tryz.prog 127 #[.string s] w fun e w'=>e=.returned (.bool (vLine s))∧Gr w w':=by
 obtain⟨R,hR⟩:∃ R,s.data.toList.all okB=R:=⟨_,rfl⟩
 unfold vLine
 rw [hR]
 have HS:Hid ((s.data.toList.drop 0).all okB=R):=hR
 clear hR
 by_cases h1:s.size<1
 ·have q1:decide (s.size<1)=true:=decide_eq_true h1
  go_enter Tryz.func127,Tryz.ntmps127
  go_wp2
  go_ret
  exact⟨by rw [decide_eq_false (by omega:¬ 1≤s.size)];rfl,(by repeat (first | with_reducible exact Gr.refl _ | with_reducible assumption | refine Gr.setCell ?_ (by first | omega | (simp;done) | (simp;omega)) _ | refine Gr.alloc ?_ _ | refine Gr.drew ?_ | refine Gr.drewN ?_ _ | refine Gr.trans ?_ (by with_reducible assumption)))⟩
 by_cases h2:64<s.size
 ·have q1:decide (s.size<1)=false:=decide_eq_false h1
  have q2:decide (64<s.size)=true:=decide_eq_true h2
  go_enter Tryz.func127,Tryz.ntmps127
  go_wp2
  go_ret
  exact⟨by rw [decide_eq_false (by omega:¬ s.size≤64)];simp,(by repeat (first | with_reducible exact Gr.refl _ | with_reducible assumption | refine Gr.setCell ?_ (by first | omega | (simp;done) | (simp;omega)) _ | refine Gr.alloc ?_ _ | refine Gr.drew ?_ | refine Gr.drewN ?_ _ | refine Gr.trans ?_ (by with_reducible assumption)))⟩
 have q1:decide (s.size<1)=false:=decide_eq_false h1
 have q2:decide (64<s.size)=false:=decide_eq_false h2
 rw [decide_eq_true (by omega:1≤s.size),decide_eq_true (by omega:s.size≤64)]
 go_enter Tryz.func127,Tryz.ntmps127
 go_wp2
 go_loop [3,14] (fun _ k=>∃ kk:Nat,kk≤s.size∧k=.int .i64 kk∧Hid ((s.data.toList.drop kk).all okB=R)) (fun _ k=>s.size - (RowKit.intOf k).toNat)
 case atStart=>exact⟨0,Nat.zero_le _,rfl,HS⟩
 case round=>
  obtain⟨kk,h3,rfl,hno⟩:=hrel
  clear HS
  by_cases c1:kk<s.size
  ·have q3:decide (kk<s.size)=true:=decide_eq_true c1
   have hd:=hno.out
   rw [ba_drop s kk c1,List.all_cons] at hd
   by_cases c2:(s[kk].toNat:Int)<32
   ·have q4:decide ((s[kk].toNat:Int)<32)=true:=decide_eq_true c2
    have hv:Hid (R=false):=by
     have:okB s[kk]=false:=by unfold okB;rw [decide_eq_false (by omega)];rfl
     rw [this] at hd
     exact hd.symm
    clear hd hno
    go_wp2
    go_ret
    exact⟨by rw [hv.out];rfl,(by repeat (first | with_reducible exact Gr.refl _ | with_reducible assumption | refine Gr.setCell ?_ (by first | omega | (simp;done) | (simp;omega)) _ | refine Gr.alloc ?_ _ | refine Gr.drew ?_ | refine Gr.drewN ?_ _ | refine Gr.trans ?_ (by with_reducible assumption)))⟩
   by_cases c3:126<(s[kk].toNat:Int)
   ·have q4:decide ((s[kk].toNat:Int)<32)=false:=decide_eq_false c2
    have q5:decide (126<(s[kk].toNat:Int))=true:=decide_eq_true c3
    have hv:Hid (R=false):=by
     have:okB s[kk]=false:=by unfold okB;rw [decide_eq_false (by omega:¬ s[kk].toNat≤126)];simp
     rw [this] at hd
     exact hd.symm
    clear hd hno
    go_wp2
    go_ret
    exact⟨by rw [hv.out];rfl,(by repeat (first | with_reducible exact Gr.refl _ | with_reducible assumption | refine Gr.setCell ?_ (by first | omega | (simp;done) | (simp;omega)) _ | refine Gr.alloc ?_ _ | refine Gr.drew ?_ | refine Gr.drewN ?_ _ | refine Gr.trans ?_ (by with_reducible assumption)))⟩
   have q4:decide ((s[kk].toNat:Int)<32)=false:=decide_eq_false c2
   have q5:decide (126<(s[kk].toNat:Int))=false:=decide_eq_false c3
   have hv:Hid ((s.data.toList.drop (kk+1)).all okB=R):=by
    have:okB s[kk]=true:=by unfold okB;rw [decide_eq_true (by omega),decide_eq_true (by omega)];rfl
    rw [this] at hd
    exact hd
   clear hd hno
   go_wp2
   exact⟨⟨kk+1,by omega,by go_num,hv⟩,by simp [RowKit.intOf];omega⟩
  ·have q3:decide (kk<s.size)=false:=decide_eq_false c1
   have hv:Hid (R=true):=by
    have hd:=hno.out
    rw [ba_drop_end s kk (by omega)] at hd
    exact hd.symm
   clear hno
   go_wp2
   go_ret
   exact⟨by rw [hv.out];rfl,(by repeat (first | with_reducible exact Gr.refl _ | with_reducible assumption | refine Gr.setCell ?_ (by first | omega | (simp;done) | (simp;omega)) _ | refine Gr.alloc ?_ _ | refine Gr.drew ?_ | refine Gr.drewN ?_ _ | refine Gr.trans ?_ (by with_reducible assumption)))⟩
set_option maxHeartbeats 1000000 in
theorem rvalidLine_any (s:ByteArray) (w:World) (hs:s.size≤140737488355328) :
  Calls Tryz.prog 39 #[.string s] w fun e w'=>e=.returned (.bool (vLine s))∧Gr w w':=by
 obtain⟨R,hR⟩:∃ R,s.data.toList.all okB=R:=⟨_,rfl⟩
 unfold vLine
 rw [hR]
 have HS:Hid ((s.data.toList.drop 0).all okB=R):=hR
 clear hR
 go_enter Tryz.func39,Tryz.ntmps39
 go_wp2
 go_loop [3] (fun k=>∃ kk:Nat,kk≤s.size∧k=.int .i64 kk∧Hid ((s.data.toList.drop kk).all okB=R)) (fun k=>s.size - (RowKit.intOf k).toNat)
 case atStart=>exact⟨0,Nat.zero_le _,rfl,HS⟩
 case round=>
  obtain⟨kk,h3,rfl,hno⟩:=hrel
  clear HS
  by_cases c1:kk<s.size
  ·have q3:decide (kk<s.size)=true:=decide_eq_true c1
   have hd:=hno.out
   rw [ba_drop s kk c1,List.all_cons] at hd
   by_cases c2:(s[kk].toNat:Int)<32
   ·have q4:decide ((s[kk].toNat:Int)<32)=true:=decide_eq_true c2
    have hv:Hid (R=false):=by
     have:okB s[kk]=false:=by unfold okB;rw [decide_eq_false (by omega)];rfl
     rw [this] at hd
     exact hd.symm
    clear hd hno
    go_wp2
    go_ret
    exact⟨by rw [hv.out];simp,(by repeat (first | with_reducible exact Gr.refl _ | with_reducible assumption | refine Gr.setCell ?_ (by first | omega | (simp;done) | (simp;omega)) _ | refine Gr.alloc ?_ _ | refine Gr.drew ?_ | refine Gr.drewN ?_ _ | refine Gr.trans ?_ (by with_reducible assumption)))⟩
   by_cases c3:126<(s[kk].toNat:Int)
   ·have q4:decide ((s[kk].toNat:Int)<32)=false:=decide_eq_false c2
    have q5:decide (126<(s[kk].toNat:Int))=true:=decide_eq_true c3
    have hv:Hid (R=false):=by
     have:okB s[kk]=false:=by unfold okB;rw [decide_eq_false (by omega:¬ s[kk].toNat≤126)];simp
     rw [this] at hd
     exact hd.symm
    clear hd hno
    go_wp2
    go_ret
    exact⟨by rw [hv.out];simp,(by repeat (first | with_reducible exact Gr.refl _ | with_reducible assumption | refine Gr.setCell ?_ (by first | omega | (simp;done) | (simp;omega)) _ | refine Gr.alloc ?_ _ | refine Gr.drew ?_ | refine Gr.drewN ?_ _ | refine Gr.trans ?_ (by with_reducible assumption)))⟩
   have q4:decide ((s[kk].toNat:Int)<32)=false:=decide_eq_false c2
   have q5:decide (126<(s[kk].toNat:Int))=false:=decide_eq_false c3
   have hv:Hid ((s.data.toList.drop (kk+1)).all okB=R):=by
    have:okB s[kk]=true:=by unfold okB;rw [decide_eq_true (by omega),decide_eq_true (by omega)];rfl
    rw [this] at hd
    exact hd
   clear hd hno
   go_wp2
   exact⟨⟨kk+1,by omega,by go_num,hv⟩,by simp [RowKit.intOf];omega⟩
  ·have q3:decide (kk<s.size)=false:=decide_eq_false c1
   have hv:Hid (R=true):=by
    have hd:=hno.out
    rw [ba_drop_end s kk (by omega)] at hd
    exact hd.symm
   clear hno
   by_cases g1:s.size<1
   ·have p1:decide (1≤s.size)=false:=decide_eq_false (by omega)
    go_wp2
    go_ret
    exact⟨by simp [p1],(by repeat (first | with_reducible exact Gr.refl _ | with_reducible assumption | refine Gr.setCell ?_ (by first | omega | (simp;done) | (simp;omega)) _ | refine Gr.alloc ?_ _ | refine Gr.drew ?_ | refine Gr.drewN ?_ _ | refine Gr.trans ?_ (by with_reducible assumption)))⟩
   ·have p1:decide (1≤s.size)=true:=decide_eq_true (by omega)
    by_cases g2:s.size≤64
    ·have p2:decide (s.size≤64)=true:=decide_eq_true (by omega)
     go_wp2
     go_ret
     exact⟨by rw [hv.out];simp [p1,p2];omega,(by repeat (first | with_reducible exact Gr.refl _ | with_reducible assumption | refine Gr.setCell ?_ (by first | omega | (simp;done) | (simp;omega)) _ | refine Gr.alloc ?_ _ | refine Gr.drew ?_ | refine Gr.drewN ?_ _ | refine Gr.trans ?_ (by with_reducible assumption)))⟩
    ·have p2:decide (s.size≤64)=false:=decide_eq_false (by omega)
     go_wp2
     go_ret
     exact⟨by simp [p1,p2];omega,(by repeat (first | with_reducible exact Gr.refl _ | with_reducible assumption | refine Gr.setCell ?_ (by first | omega | (simp;done) | (simp;omega)) _ | refine Gr.alloc ?_ _ | refine Gr.drew ?_ | refine Gr.drewN ?_ _ | refine Gr.trans ?_ (by with_reducible assumption)))⟩
structure CuOk (c:Cu):Prop where
 f1:-9223372036854775808≤c.f
 f2:c.f≤9223372036854775807
 t1:-9223372036854775808≤c.t
 t2:c.t≤9223372036854775807
 n:c.ss.length≤140737488355328
 s:∀ s∈c.ss,s.size≤140737488355328
structure Cues (W:World) (v:Value) (cs:List Cu):Prop where
 at_:CuesR W v cs
 ok:∀ c∈cs,CuOk c
 n:cs.length≤3518437208883
theorem Cues.gr {W w:World} {v:Value} {cs:List Cu} (hg:Gr W w) (h:Cues W v cs):Cues w v cs:=⟨h.at_.gr hg,h.ok,h.n⟩
abbrev AC:=Int × Int × List ByteArray
end Go.Proofs.YtgbiodnfpbhjiaaGreatDoor
