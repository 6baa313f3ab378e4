/-
  Contracts: titles and names, of packages edl and timeline and of the reference.
  Conditions: the string has at most 2^47 bytes.
-/
import Derived.Test.YtnginfangeikpaaGreatDoorMathCa
import Derived.Test.YtnginfangeikpaaGreatDoorWalk19A
namespace Go.Proofs.YtnginfangeikpaaGreatDoor
open Go.RowKit Go.Lib
set_option linter.unusedSimpArgs false
set_option linter.unusedVariables false
def nmY (y:Int):Bool:=decide (97≤y∧y≤122) || decide (48≤y∧y≤57) || decide (y=45) || decide (y=95) || decide (y=46)
theorem nmc_eq {b:UInt8} {y:Int} (h:(b.toNat:Int)=y):nmc b=nmY y:=by
 have e:∀ p q:Prop,[Decidable p]→[Decidable q]→(p↔q)→decide p=decide q:=fun p q _ _ h=>by rw [decide_eq_decide];exact h
 unfold nmc nmY
 rw [e _ (97≤y∧y≤122) (by omega),e (48≤b.toNat∧b.toNat≤57) (48≤y∧y≤57) (by omega),e (b.toNat=45) (y=45) (by omega),e (b.toNat=95) (y=95) (by omega),e (b.toNat=46) (y=46) (by omega)]
theorem nm_cases (y:Int):(nmY y=true∧97≤y∧y≤122)∨(nmY y=true∧48≤y∧y≤57)∨(nmY y=true∧y=45)∨(nmY y=true∧y=95)∨(nmY y=true∧y=46) ∨
  (nmY y=false∧122<y)∨(nmY y=false∧y<48∧y≠45∧y≠46)∨(nmY y=false∧57<y∧y<97∧y≠95)∨(nmY y=false∧y<0):=by
 by_cases h:nmY y=true
 ·have h2:=h
  unfold nmY at h2
  simp only [Bool.or_eq_true,decide_eq_true_eq] at h2
  rcases h2 with (((h2 | h2) | h2) | h2) | h2
  ·exact .inl ⟨h,h2⟩
  ·exact .inr (.inl ⟨h,h2⟩)
  ·exact .inr (.inr (.inl ⟨h,h2⟩))
  ·exact .inr (.inr (.inr (.inl ⟨h,h2⟩)))
  ·exact .inr (.inr (.inr (.inr (.inl ⟨h,h2⟩))))
 ·have h:nmY y=false:=by simpa using h
  have h2:=h
  unfold nmY at h2
  simp only [Bool.or_eq_false_iff,decide_eq_false_iff_not] at h2
  obtain⟨⟨⟨⟨a,b⟩,c⟩,d⟩,e⟩:=h2
  rcases (show 122<y∨(y<48∧y≠45∧y≠46)∨(57<y∧y<97∧y≠95) by omega) with h3 | h3 | h3
  ·exact .inr (.inr (.inr (.inr (.inr (.inl ⟨h,h3⟩)))))
  ·exact .inr (.inr (.inr (.inr (.inr (.inr (.inl ⟨h,h3⟩))))))
  ·exact .inr (.inr (.inr (.inr (.inr (.inr (.inr (.inl ⟨h,h3⟩)))))))
set_option maxHeartbeats 1000000 in
theorem title_any (s:ByteArray) (w:World) (hs:s.size≤140737488355328) :
  Calls Tryz.prog 29 #[.string s] w fun e w'=>e=.returned (.bool (vLine s))∧Gr w w':=by
 obtain⟨R,hR⟩:∃ R,s.data.toList.all okB=R:=⟨_,rfl⟩
 unfold vLine
 rw [hR]
 have HS:Hid ((s.data.toList.drop 0).all okB=R):=hR
 clear hR
 by_cases h1:s.size<1
 ·have q1:decide (s.size<1)=true:=decide_eq_true h1
  go_enter Tryz.func29,Tryz.ntmps29
  go_wp2
  go_ret
  exact⟨by rw [decide_eq_false (by omega:¬ 1≤s.size)];rfl,(by repeat (first | with_reducible exact Gr.refl _ | with_reducible assumption | refine Gr.setCell ?_ (by first | omega | (simp;done) | (simp;omega)) _ | refine Gr.alloc ?_ _ | refine Gr.drew ?_ | refine Gr.drewN ?_ _ | refine Gr.trans ?_ (by with_reducible assumption)))⟩
 by_cases h2:64<s.size
 ·have q1:decide (s.size<1)=false:=decide_eq_false h1
  have q2:decide (64<s.size)=true:=decide_eq_true h2
  go_enter Tryz.func29,Tryz.ntmps29
  go_wp2
  go_ret
  exact⟨by rw [decide_eq_false (by omega:¬ s.size≤64)];simp,(by repeat (first | with_reducible exact Gr.refl _ | with_reducible assumption | refine Gr.setCell ?_ (by first | omega | (simp;done) | (simp;omega)) _ | refine Gr.alloc ?_ _ | refine Gr.drew ?_ | refine Gr.drewN ?_ _ | refine Gr.trans ?_ (by with_reducible assumption)))⟩
 have q1:decide (s.size<1)=false:=decide_eq_false h1
 have q2:decide (64<s.size)=false:=decide_eq_false h2
 rw [decide_eq_true (by omega:1≤s.size),decide_eq_true (by omega:s.size≤64)]
 go_enter Tryz.func29,Tryz.ntmps29
 go_wp2
 go_loop [3,14] (fun _ k=>∃ kk:Nat,kk≤s.size∧k=.int .i64 kk∧Hid ((s.data.toList.drop kk).all okB=R)) (fun _ k=>s.size - (RowKit.intOf k).toNat)
 case atStart=>exact⟨0,Nat.zero_le _,rfl,HS⟩
 case round=>
  obtain⟨kk,h3,rfl,hno⟩:=hrel
  clear HS
  by_cases c1:kk<s.size
  ·have q3:decide (kk<s.size)=true:=decide_eq_true c1
   have hd:=hno.out
   rw [ba_drop s kk c1,List.all_cons] at hd
   by_cases c2:(s[kk].toNat:Int)<32
   ·have q4:decide ((s[kk].toNat:Int)<32)=true:=decide_eq_true c2
    have hv:Hid (R=false):=by
     have:okB s[kk]=false:=by unfold okB;rw [decide_eq_false (by omega)];rfl
     rw [this] at hd
     exact hd.symm
    clear hd hno
    go_wp2
    go_ret
    exact⟨by rw [hv.out];rfl,(by repeat (first | with_reducible exact Gr.refl _ | with_reducible assumption | refine Gr.setCell ?_ (by first | omega | (simp;done) | (simp;omega)) _ | refine Gr.alloc ?_ _ | refine Gr.drew ?_ | refine Gr.drewN ?_ _ | refine Gr.trans ?_ (by with_reducible assumption)))⟩
   by_cases c3:126<(s[kk].toNat:Int)
   ·have q4:decide ((s[kk].toNat:Int)<32)=false:=decide_eq_false c2
    have q5:decide (126<(s[kk].toNat:Int))=true:=decide_eq_true c3
    have hv:Hid (R=false):=by
     have:okB s[kk]=false:=by unfold okB;rw [decide_eq_false (by omega:¬ s[kk].toNat≤126)];simp
     rw [this] at hd
     exact hd.symm
    clear hd hno
    go_wp2
    go_ret
    exact⟨by rw [hv.out];rfl,(by repeat (first | with_reducible exact Gr.refl _ | with_reducible assumption | refine Gr.setCell ?_ (by first | omega | (simp;done) | (simp;omega)) _ | refine Gr.alloc ?_ _ | refine Gr.drew ?_ | refine Gr.drewN ?_ _ | refine Gr.trans ?_ (by with_reducible assumption)))⟩
   have q4:decide ((s[kk].toNat:Int)<32)=false:=decide_eq_false c2
   have q5:decide (126<(s[kk].toNat:Int))=false:=decide_eq_false c3
   have hv:Hid ((s.data.toList.drop (kk+1)).all okB=R):=by
    have:okB s[kk]=true:=by unfold okB;rw [decide_eq_true (by omega),decide_eq_true (by omega)];rfl
    rw [this] at hd
    exact hd
   clear hd hno
   go_wp2
   exact⟨⟨kk+1,by omega,by go_num,hv⟩,by simp [RowKit.intOf];omega⟩
  ·have q3:decide (kk<s.size)=false:=decide_eq_false c1
   have hv:Hid (R=true):=by
    have hd:=hno.out
    rw [ba_drop_end s kk (by omega)] at hd
    exact hd.symm
   clear hno
   go_wp2
   go_ret
   exact⟨by rw [hv.out];rfl,(by repeat (first | with_reducible exact Gr.refl _ | with_reducible assumption | refine Gr.setCell ?_ (by first | omega | (simp;done) | (simp;omega)) _ | refine Gr.alloc ?_ _ | refine Gr.drew ?_ | refine Gr.drewN ?_ _ | refine Gr.trans ?_ (by with_reducible assumption)))⟩
set_option maxHeartbeats 2000000 in
theorem validName_any (s:ByteArray) (w:World) (hs:s.size≤140737488355328) :
  Calls Tryz.prog 58 #[.string s] w fun e w'=>e=.returned (.bool (nmB s))∧Gr w w':=by
 obtain⟨R,hR⟩:∃ R,s.data.toList.all nmc=R:=⟨_,rfl⟩
 unfold nmB
 rw [hR]
 have HS:Hid ((s.data.toList.drop 0).all nmc=R):=hR
 clear hR
 by_cases h1:s.size<1
 ·have q1:decide (s.size<1)=true:=decide_eq_true h1
  go_enter Tryz.func58,Tryz.ntmps58
  go_wp2
  go_ret
  exact⟨by rw [decide_eq_false (by omega:¬ 1≤s.size)];rfl,(by repeat (first | with_reducible exact Gr.refl _ | with_reducible assumption | refine Gr.setCell ?_ (by first | omega | (simp;done) | (simp;omega)) _ | refine Gr.alloc ?_ _ | refine Gr.drew ?_ | refine Gr.drewN ?_ _ | refine Gr.trans ?_ (by with_reducible assumption)))⟩
 by_cases h2:32<s.size
 ·have q1:decide (s.size<1)=false:=decide_eq_false h1
  have q2:decide (32<s.size)=true:=decide_eq_true h2
  go_enter Tryz.func58,Tryz.ntmps58
  go_wp2
  go_ret
  exact⟨by rw [decide_eq_false (by omega:¬ s.size≤32)];simp,(by repeat (first | with_reducible exact Gr.refl _ | with_reducible assumption | refine Gr.setCell ?_ (by first | omega | (simp;done) | (simp;omega)) _ | refine Gr.alloc ?_ _ | refine Gr.drew ?_ | refine Gr.drewN ?_ _ | refine Gr.trans ?_ (by with_reducible assumption)))⟩
 have q1:decide (s.size<1)=false:=decide_eq_false h1
 have q2:decide (32<s.size)=false:=decide_eq_false h2
 rw [decide_eq_true (by omega:1≤s.size),decide_eq_true (by omega:s.size≤32)]
 go_enter Tryz.func58,Tryz.ntmps58
 go_wp2
 go_loop [3,4,15] (fun _ _ k=>∃ kk:Nat,kk≤s.size∧k=.int .i64 kk∧Hid ((s.data.toList.drop kk).all nmc=R)) (fun _ _ k=>s.size - (RowKit.intOf k).toNat)
 case atStart=>exact⟨0,Nat.zero_le _,rfl,HS⟩
 case round=>
  obtain⟨kk,h3,rfl,hno⟩:=hrel
  clear HS
  by_cases c1:kk<s.size
  ·have q3:decide (kk<s.size)=true:=decide_eq_true c1
   have hd:=hno.out
   rw [ba_drop s kk c1,List.all_cons] at hd
   obtain⟨y,hy⟩:∃ y:Int,(s[kk].toNat:Int)=y:=⟨_,rfl⟩
   have hyb:0≤y:=by omega
   have hm:nmc s[kk]=nmY y:=nmc_eq hy
   rw [hm] at hd
   rcases nm_cases y with ⟨g,c⟩ | ⟨g,c⟩ | ⟨g,c⟩ | ⟨g,c⟩ | ⟨g,c⟩ | ⟨g,c⟩ | ⟨g,c⟩ | ⟨g,c⟩ | ⟨g,c⟩ <;> rw [g] at hd
   ·have hv:Hid ((s.data.toList.drop (kk+1)).all nmc=R):=hd
    clear hd hno hm
    (first | have t1:decide (y<97)=true:=decide_eq_true (by omega) | have t1:decide (y<97)=false:=decide_eq_false (by omega))
    (first | have t2:decide (122<y)=true:=decide_eq_true (by omega) | have t2:decide (122<y)=false:=decide_eq_false (by omega))
    (first | have t3:decide (y<48)=true:=decide_eq_true (by omega) | have t3:decide (y<48)=false:=decide_eq_false (by omega))
    (first | have t4:decide (57<y)=true:=decide_eq_true (by omega) | have t4:decide (57<y)=false:=decide_eq_false (by omega))
    (first | have t5:(y != 45)=true:=bne_iff_ne.2 (by omega) | have t5:(y != 45)=false:=by rw [show y=45 by omega];rfl)
    (first | have t6:(y != 95)=true:=bne_iff_ne.2 (by omega) | have t6:(y != 95)=false:=by rw [show y=95 by omega];rfl)
    (first | have t7:(y != 46)=true:=bne_iff_ne.2 (by omega) | have t7:(y != 46)=false:=by rw [show y=46 by omega];rfl)
    go_wp2
    exact⟨⟨kk+1,by omega,by go_num,hv⟩,by simp [RowKit.intOf];omega⟩
   ·have hv:Hid ((s.data.toList.drop (kk+1)).all nmc=R):=hd
    clear hd hno hm
    (first | have t1:decide (y<97)=true:=decide_eq_true (by omega) | have t1:decide (y<97)=false:=decide_eq_false (by omega))
    (first | have t2:decide (122<y)=true:=decide_eq_true (by omega) | have t2:decide (122<y)=false:=decide_eq_false (by omega))
    (first | have t3:decide (y<48)=true:=decide_eq_true (by omega) | have t3:decide (y<48)=false:=decide_eq_false (by omega))
    (first | have t4:decide (57<y)=true:=decide_eq_true (by omega) | have t4:decide (57<y)=false:=decide_eq_false (by omega))
    (first | have t5:(y != 45)=true:=bne_iff_ne.2 (by omega) | have t5:(y != 45)=false:=by rw [show y=45 by omega];rfl)
    (first | have t6:(y != 95)=true:=bne_iff_ne.2 (by omega) | have t6:(y != 95)=false:=by rw [show y=95 by omega];rfl)
    (first | have t7:(y != 46)=true:=bne_iff_ne.2 (by omega) | have t7:(y != 46)=false:=by rw [show y=46 by omega];rfl)
    go_wp2
    exact⟨⟨kk+1,by omega,by go_num,hv⟩,by simp [RowKit.intOf];omega⟩
   ·have hv:Hid ((s.data.toList.drop (kk+1)).all nmc=R):=hd
    clear hd hno hm
    (first | have t1:decide (y<97)=true:=decide_eq_true (by omega) | have t1:decide (y<97)=false:=decide_eq_false (by omega))
    (first | have t2:decide (122<y)=true:=decide_eq_true (by omega) | have t2:decide (122<y)=false:=decide_eq_false (by omega))
    (first | have t3:decide (y<48)=true:=decide_eq_true (by omega) | have t3:decide (y<48)=false:=decide_eq_false (by omega))
    (first | have t4:decide (57<y)=true:=decide_eq_true (by omega) | have t4:decide (57<y)=false:=decide_eq_false (by omega))
    (first | have t5:(y != 45)=true:=bne_iff_ne.2 (by omega) | have t5:(y != 45)=false:=by rw [show y=45 by omega];rfl)
    (first | have t6:(y != 95)=true:=bne_iff_ne.2 (by omega) | have t6:(y != 95)=false:=by rw [show y=95 by omega];rfl)
    (first | have t7:(y != 46)=true:=bne_iff_ne.2 (by omega) | have t7:(y != 46)=false:=by rw [show y=46 by omega];rfl)
    go_wp2
    exact⟨⟨kk+1,by omega,by go_num,hv⟩,by simp [RowKit.intOf];omega⟩
   ·have hv:Hid ((s.data.toList.drop (kk+1)).all nmc=R):=hd
    clear hd hno hm
    (first | have t1:decide (y<97)=true:=decide_eq_true (by omega) | have t1:decide (y<97)=false:=decide_eq_false (by omega))
    (first | have t2:decide (122<y)=true:=decide_eq_true (by omega) | have t2:decide (122<y)=false:=decide_eq_false (by omega))
    (first | have t3:decide (y<48)=true:=decide_eq_true (by omega) | have t3:decide (y<48)=false:=decide_eq_false (by omega))
    (first | have t4:decide (57<y)=true:=decide_eq_true (by omega) | have t4:decide (57<y)=false:=decide_eq_false (by omega))
    (first | have t5:(y != 45)=true:=bne_iff_ne.2 (by omega) | have t5:(y != 45)=false:=by rw [show y=45 by omega];rfl)
    (first | have t6:(y != 95)=true:=bne_iff_ne.2 (by omega) | have t6:(y != 95)=false:=by rw [show y=95 by omega];rfl)
    (first | have t7:(y != 46)=true:=bne_iff_ne.2 (by omega) | have t7:(y != 46)=false:=by rw [show y=46 by omega];rfl)
    go_wp2
    exact⟨⟨kk+1,by omega,by go_num,hv⟩,by simp [RowKit.intOf];omega⟩
   ·have hv:Hid ((s.data.toList.drop (kk+1)).all nmc=R):=hd
    clear hd hno hm
    (first | have t1:decide (y<97)=true:=decide_eq_true (by omega) | have t1:decide (y<97)=false:=decide_eq_false (by omega))
    (first | have t2:decide (122<y)=true:=decide_eq_true (by omega) | have t2:decide (122<y)=false:=decide_eq_false (by omega))
    (first | have t3:decide (y<48)=true:=decide_eq_true (by omega) | have t3:decide (y<48)=false:=decide_eq_false (by omega))
    (first | have t4:decide (57<y)=true:=decide_eq_true (by omega) | have t4:decide (57<y)=false:=decide_eq_false (by omega))
    (first | have t5:(y != 45)=true:=bne_iff_ne.2 (by omega) | have t5:(y != 45)=false:=by rw [show y=45 by omega];rfl)
    (first | have t6:(y != 95)=true:=bne_iff_ne.2 (by omega) | have t6:(y != 95)=false:=by rw [show y=95 by omega];rfl)
    (first | have t7:(y != 46)=true:=bne_iff_ne.2 (by omega) | have t7:(y != 46)=false:=by rw [show y=46 by omega];rfl)
    go_wp2
    exact⟨⟨kk+1,by omega,by go_num,hv⟩,by simp [RowKit.intOf];omega⟩
   ·have hv:Hid (R=false):=hd.symm
    clear hd hno hm
    (first | have t1:decide (y<97)=true:=decide_eq_true (by omega) | have t1:decide (y<97)=false:=decide_eq_false (by omega))
    (first | have t2:decide (122<y)=true:=decide_eq_true (by omega) | have t2:decide (122<y)=false:=decide_eq_false (by omega))
    (first | have t3:decide (y<48)=true:=decide_eq_true (by omega) | have t3:decide (y<48)=false:=decide_eq_false (by omega))
    (first | have t4:decide (57<y)=true:=decide_eq_true (by omega) | have t4:decide (57<y)=false:=decide_eq_false (by omega))
    have t5:(y != 45)=true:=bne_iff_ne.2 (by omega)
    have t6:(y != 95)=true:=bne_iff_ne.2 (by omega)
    have t7:(y != 46)=true:=bne_iff_ne.2 (by omega)
    go_wp2
    go_ret
    exact⟨by rw [hv.out];rfl,(by repeat (first | with_reducible exact Gr.refl _ | with_reducible assumption | refine Gr.setCell ?_ (by first | omega | (simp;done) | (simp;omega)) _ | refine Gr.alloc ?_ _ | refine Gr.drew ?_ | refine Gr.drewN ?_ _ | refine Gr.trans ?_ (by with_reducible assumption)))⟩
   ·have hv:Hid (R=false):=hd.symm
    clear hd hno hm
    (first | have t1:decide (y<97)=true:=decide_eq_true (by omega) | have t1:decide (y<97)=false:=decide_eq_false (by omega))
    (first | have t2:decide (122<y)=true:=decide_eq_true (by omega) | have t2:decide (122<y)=false:=decide_eq_false (by omega))
    (first | have t3:decide (y<48)=true:=decide_eq_true (by omega) | have t3:decide (y<48)=false:=decide_eq_false (by omega))
    (first | have t4:decide (57<y)=true:=decide_eq_true (by omega) | have t4:decide (57<y)=false:=decide_eq_false (by omega))
    have t5:(y != 45)=true:=bne_iff_ne.2 (by omega)
    have t6:(y != 95)=true:=bne_iff_ne.2 (by omega)
    have t7:(y != 46)=true:=bne_iff_ne.2 (by omega)
    go_wp2
    go_ret
    exact⟨by rw [hv.out];rfl,(by repeat (first | with_reducible exact Gr.refl _ | with_reducible assumption | refine Gr.setCell ?_ (by first | omega | (simp;done) | (simp;omega)) _ | refine Gr.alloc ?_ _ | refine Gr.drew ?_ | refine Gr.drewN ?_ _ | refine Gr.trans ?_ (by with_reducible assumption)))⟩
   ·have hv:Hid (R=false):=hd.symm
    clear hd hno hm
    (first | have t1:decide (y<97)=true:=decide_eq_true (by omega) | have t1:decide (y<97)=false:=decide_eq_false (by omega))
    (first | have t2:decide (122<y)=true:=decide_eq_true (by omega) | have t2:decide (122<y)=false:=decide_eq_false (by omega))
    (first | have t3:decide (y<48)=true:=decide_eq_true (by omega) | have t3:decide (y<48)=false:=decide_eq_false (by omega))
    (first | have t4:decide (57<y)=true:=decide_eq_true (by omega) | have t4:decide (57<y)=false:=decide_eq_false (by omega))
    have t5:(y != 45)=true:=bne_iff_ne.2 (by omega)
    have t6:(y != 95)=true:=bne_iff_ne.2 (by omega)
    have t7:(y != 46)=true:=bne_iff_ne.2 (by omega)
    go_wp2
    go_ret
    exact⟨by rw [hv.out];rfl,(by repeat (first | with_reducible exact Gr.refl _ | with_reducible assumption | refine Gr.setCell ?_ (by first | omega | (simp;done) | (simp;omega)) _ | refine Gr.alloc ?_ _ | refine Gr.drew ?_ | refine Gr.drewN ?_ _ | refine Gr.trans ?_ (by with_reducible assumption)))⟩
   ·have hv:Hid (R=false):=hd.symm
    clear hd hno hm
    (first | have t1:decide (y<97)=true:=decide_eq_true (by omega) | have t1:decide (y<97)=false:=decide_eq_false (by omega))
    (first | have t2:decide (122<y)=true:=decide_eq_true (by omega) | have t2:decide (122<y)=false:=decide_eq_false (by omega))
    (first | have t3:decide (y<48)=true:=decide_eq_true (by omega) | have t3:decide (y<48)=false:=decide_eq_false (by omega))
    (first | have t4:decide (57<y)=true:=decide_eq_true (by omega) | have t4:decide (57<y)=false:=decide_eq_false (by omega))
    have t5:(y != 45)=true:=bne_iff_ne.2 (by omega)
    have t6:(y != 95)=true:=bne_iff_ne.2 (by omega)
    have t7:(y != 46)=true:=bne_iff_ne.2 (by omega)
    go_wp2
    go_ret
    exact⟨by rw [hv.out];rfl,(by repeat (first | with_reducible exact Gr.refl _ | with_reducible assumption | refine Gr.setCell ?_ (by first | omega | (simp;done) | (simp;omega)) _ | refine Gr.alloc ?_ _ | refine Gr.drew ?_ | refine Gr.drewN ?_ _ | refine Gr.trans ?_ (by with_reducible assumption)))⟩
  ·have q3:decide (kk<s.size)=false:=decide_eq_false c1
   have hv:Hid (R=true):=by
    have hd:=hno.out
    rw [ba_drop_end s kk (by omega)] at hd
    exact hd.symm
   clear hno
   go_wp2
   go_ret
   exact⟨by rw [hv.out];rfl,(by repeat (first | with_reducible exact Gr.refl _ | with_reducible assumption | refine Gr.setCell ?_ (by first | omega | (simp;done) | (simp;omega)) _ | refine Gr.alloc ?_ _ | refine Gr.drew ?_ | refine Gr.drewN ?_ _ | refine Gr.trans ?_ (by with_reducible assumption)))⟩
def Ev.cells (e:Ev):List Value:=[.int .i64 e.k,.int .i64 e.p,.int .i64 e.fr,.string e.reel,.int .i64 e.i,.int .i64 e.o,.int .i64 e.f,.int .i64 e.t]
def Ev.val (e:Ev):Value:=.agg #[.int .i64 e.k,.int .i64 e.p,.int .i64 e.fr,.string e.reel,.int .i64 e.i,.int .i64 e.o,.int .i64 e.f,.int .i64 e.t]
set_option maxHeartbeats 2000000 in
theorem vkind_any (e:Ev) (w:World):Calls Tryz.prog 57 #[e.val] w fun en w'=>en=.returned (.bool (vKd e))∧Gr w w':=by
 obtain⟨k,p,fr,reel,i,o,f,t⟩:=e
 unfold vKd Ev.val
 simp only
 by_cases h0:k=0
 ·subst h0
  rw [decide_eq_false (by omega:¬ ((0:Int)=1∧1≤fr∧fr≤999∧p=0)),decide_eq_false (by omega:¬ ((0:Int)=2∧1≤fr∧fr≤999∧0≤p∧p≤3))]
  by_cases h1:fr=0
  ·have q1:(fr == 0)=true:=by simp [h1]
   by_cases h2:p=0
   ·have q2:(p == 0)=true:=by simp [h2]
    rw [decide_eq_true (by omega:(0:Int)=0∧fr=0∧p=0)]
    go_enter Tryz.func57,Tryz.ntmps57
    go_wp2
    go_ret
    exact⟨by simp [h1,h2],(by repeat (first | with_reducible exact Gr.refl _ | with_reducible assumption | refine Gr.setCell ?_ (by first | omega | (simp;done) | (simp;omega)) _ | refine Gr.alloc ?_ _ | refine Gr.drew ?_ | refine Gr.drewN ?_ _ | refine Gr.trans ?_ (by with_reducible assumption)))⟩
   ·have q2:(p == 0)=false:=by simp [h2]
    rw [decide_eq_false (by omega:¬ ((0:Int)=0∧fr=0∧p=0))]
    go_enter Tryz.func57,Tryz.ntmps57
    go_wp2
    go_ret
    exact⟨by simp [h1,h2],(by repeat (first | with_reducible exact Gr.refl _ | with_reducible assumption | refine Gr.setCell ?_ (by first | omega | (simp;done) | (simp;omega)) _ | refine Gr.alloc ?_ _ | refine Gr.drew ?_ | refine Gr.drewN ?_ _ | refine Gr.trans ?_ (by with_reducible assumption)))⟩
  ·have q1:(fr == 0)=false:=by simp [h1]
   rw [decide_eq_false (by omega:¬ ((0:Int)=0∧fr=0∧p=0))]
   go_enter Tryz.func57,Tryz.ntmps57
   go_wp2
   go_ret
   exact⟨by simp [h1],(by repeat (first | with_reducible exact Gr.refl _ | with_reducible assumption | refine Gr.setCell ?_ (by first | omega | (simp;done) | (simp;omega)) _ | refine Gr.alloc ?_ _ | refine Gr.drew ?_ | refine Gr.drewN ?_ _ | refine Gr.trans ?_ (by with_reducible assumption)))⟩
 by_cases h1:k=1
 ·subst h1
  rw [decide_eq_false (by omega:¬ ((1:Int)=0∧fr=0∧p=0)),decide_eq_false (by omega:¬ ((1:Int)=2∧1≤fr∧fr≤999∧0≤p∧p≤3))]
  by_cases h2:1≤fr
  ·have q1:decide (1≤fr)=true:=decide_eq_true h2
   by_cases h3:fr≤999
   ·have q2:decide (fr≤999)=true:=decide_eq_true h3
    by_cases h4:p=0
    ·have q3:(p == 0)=true:=by simp [h4]
     rw [decide_eq_true (by omega:(1:Int)=1∧1≤fr∧fr≤999∧p=0)]
     go_enter Tryz.func57,Tryz.ntmps57
     go_wp2
     go_ret
     exact⟨by simp [h4],(by repeat (first | with_reducible exact Gr.refl _ | with_reducible assumption | refine Gr.setCell ?_ (by first | omega | (simp;done) | (simp;omega)) _ | refine Gr.alloc ?_ _ | refine Gr.drew ?_ | refine Gr.drewN ?_ _ | refine Gr.trans ?_ (by with_reducible assumption)))⟩
    ·have q3:(p == 0)=false:=by simp [h4]
     rw [decide_eq_false (by omega:¬ ((1:Int)=1∧1≤fr∧fr≤999∧p=0))]
     go_enter Tryz.func57,Tryz.ntmps57
     go_wp2
     go_ret
     exact⟨by simp [h4],(by repeat (first | with_reducible exact Gr.refl _ | with_reducible assumption | refine Gr.setCell ?_ (by first | omega | (simp;done) | (simp;omega)) _ | refine Gr.alloc ?_ _ | refine Gr.drew ?_ | refine Gr.drewN ?_ _ | refine Gr.trans ?_ (by with_reducible assumption)))⟩
   ·have q2:decide (fr≤999)=false:=decide_eq_false h3
    rw [decide_eq_false (by omega:¬ ((1:Int)=1∧1≤fr∧fr≤999∧p=0))]
    go_enter Tryz.func57,Tryz.ntmps57
    go_wp2
    go_ret
    exact⟨by simp [h3],(by repeat (first | with_reducible exact Gr.refl _ | with_reducible assumption | refine Gr.setCell ?_ (by first | omega | (simp;done) | (simp;omega)) _ | refine Gr.alloc ?_ _ | refine Gr.drew ?_ | refine Gr.drewN ?_ _ | refine Gr.trans ?_ (by with_reducible assumption)))⟩
  ·have q1:decide (1≤fr)=false:=decide_eq_false h2
   rw [decide_eq_false (by omega:¬ ((1:Int)=1∧1≤fr∧fr≤999∧p=0))]
   go_enter Tryz.func57,Tryz.ntmps57
   go_wp2
   go_ret
   exact⟨by simp [h2],(by repeat (first | with_reducible exact Gr.refl _ | with_reducible assumption | refine Gr.setCell ?_ (by first | omega | (simp;done) | (simp;omega)) _ | refine Gr.alloc ?_ _ | refine Gr.drew ?_ | refine Gr.drewN ?_ _ | refine Gr.trans ?_ (by with_reducible assumption)))⟩
 by_cases h2:k=2
 ·subst h2
  rw [decide_eq_false (by omega:¬ ((2:Int)=0∧fr=0∧p=0)),decide_eq_false (by omega:¬ ((2:Int)=1∧1≤fr∧fr≤999∧p=0))]
  by_cases h2:1≤fr
  ·have q1:decide (1≤fr)=true:=decide_eq_true h2
   by_cases h3:fr≤999
   ·have q2:decide (fr≤999)=true:=decide_eq_true h3
    by_cases h4:0≤p
    ·have q3:decide (0≤p)=true:=decide_eq_true h4
     by_cases h5:p≤3
     ·have q4:decide (p≤3)=true:=decide_eq_true h5
      rw [decide_eq_true (by omega:(2:Int)=2∧1≤fr∧fr≤999∧0≤p∧p≤3)]
      go_enter Tryz.func57,Tryz.ntmps57
      go_wp2
      go_ret
      exact⟨by simp [h5],(by repeat (first | with_reducible exact Gr.refl _ | with_reducible assumption | refine Gr.setCell ?_ (by first | omega | (simp;done) | (simp;omega)) _ | refine Gr.alloc ?_ _ | refine Gr.drew ?_ | refine Gr.drewN ?_ _ | refine Gr.trans ?_ (by with_reducible assumption)))⟩
     ·have q4:decide (p≤3)=false:=decide_eq_false h5
      rw [decide_eq_false (by omega:¬ ((2:Int)=2∧1≤fr∧fr≤999∧0≤p∧p≤3))]
      go_enter Tryz.func57,Tryz.ntmps57
      go_wp2
      go_ret
      exact⟨by simp [h5],(by repeat (first | with_reducible exact Gr.refl _ | with_reducible assumption | refine Gr.setCell ?_ (by first | omega | (simp;done) | (simp;omega)) _ | refine Gr.alloc ?_ _ | refine Gr.drew ?_ | refine Gr.drewN ?_ _ | refine Gr.trans ?_ (by with_reducible assumption)))⟩
    ·have q3:decide (0≤p)=false:=decide_eq_false h4
     rw [decide_eq_false (by omega:¬ ((2:Int)=2∧1≤fr∧fr≤999∧0≤p∧p≤3))]
     go_enter Tryz.func57,Tryz.ntmps57
     go_wp2
     go_ret
     exact⟨by simp [h4],(by repeat (first | with_reducible exact Gr.refl _ | with_reducible assumption | refine Gr.setCell ?_ (by first | omega | (simp;done) | (simp;omega)) _ | refine Gr.alloc ?_ _ | refine Gr.drew ?_ | refine Gr.drewN ?_ _ | refine Gr.trans ?_ (by with_reducible assumption)))⟩
   ·have q2:decide (fr≤999)=false:=decide_eq_false h3
    rw [decide_eq_false (by omega:¬ ((2:Int)=2∧1≤fr∧fr≤999∧0≤p∧p≤3))]
    go_enter Tryz.func57,Tryz.ntmps57
    go_wp2
    go_ret
    exact⟨by simp [h3],(by repeat (first | with_reducible exact Gr.refl _ | with_reducible assumption | refine Gr.setCell ?_ (by first | omega | (simp;done) | (simp;omega)) _ | refine Gr.alloc ?_ _ | refine Gr.drew ?_ | refine Gr.drewN ?_ _ | refine Gr.trans ?_ (by with_reducible assumption)))⟩
  ·have q1:decide (1≤fr)=false:=decide_eq_false h2
   rw [decide_eq_false (by omega:¬ ((2:Int)=2∧1≤fr∧fr≤999∧0≤p∧p≤3))]
   go_enter Tryz.func57,Tryz.ntmps57
   go_wp2
   go_ret
   exact⟨by simp [h2],(by repeat (first | with_reducible exact Gr.refl _ | with_reducible assumption | refine Gr.setCell ?_ (by first | omega | (simp;done) | (simp;omega)) _ | refine Gr.alloc ?_ _ | refine Gr.drew ?_ | refine Gr.drewN ?_ _ | refine Gr.trans ?_ (by with_reducible assumption)))⟩
 ·have q0:(k == 0)=false:=by simp [h0]
  have q1:(k == 1)=false:=by simp [h1]
  have q2:(k == 2)=false:=by simp [h2]
  rw [decide_eq_false (by omega:¬ (k=0∧fr=0∧p=0)),decide_eq_false (by omega:¬ (k=1∧1≤fr∧fr≤999∧p=0)),decide_eq_false (by omega:¬ (k=2∧1≤fr∧fr≤999∧0≤p∧p≤3))]
  go_enter Tryz.func57,Tryz.ntmps57
  go_wp2
  go_ret
  exact⟨rfl,(by repeat (first | with_reducible exact Gr.refl _ | with_reducible assumption | refine Gr.setCell ?_ (by first | omega | (simp;done) | (simp;omega)) _ | refine Gr.alloc ?_ _ | refine Gr.drew ?_ | refine Gr.drewN ?_ _ | refine Gr.trans ?_ (by with_reducible assumption)))⟩
theorem size_zero_iff (s:ByteArray):s.toList.isEmpty=decide (s.size=0):=by
 rw [ByteArray.toList_eq]
 obtain⟨⟨l⟩⟩:=s
 cases l with
 | nil=>rfl
 | cons a l=>
  have:¬ (⟨⟨a :: l⟩⟩:ByteArray).size=0:=by show ¬ (l.length+1=0);omega
  rw [decide_eq_false this]
  rfl
set_option maxHeartbeats 4000000 in
theorem vevent_core (k p fr i o f t least day:Int) (reel:ByteArray) (KB NB:Bool) (w:World) (hl:0≤least) (hd:day≤5184000)
  (HK:∀ w,Calls Tryz.prog 57 #[.agg #[.int .i64 k,.int .i64 p,.int .i64 fr,.string reel,.int .i64 i,.int .i64 o,.int .i64 f,.int .i64 t]] w fun en w'=>en=.returned (.bool KB)∧Gr w w')
  (HN:∀ w,Calls Tryz.prog 58 #[.string reel] w fun en w'=>en=.returned (.bool NB)∧Gr w w') :
  Calls Tryz.prog 30 #[.agg #[.int .i64 k,.int .i64 p,.int .i64 fr,.string reel,.int .i64 i,.int .i64 o,.int .i64 f,.int .i64 t],.int .i64 least,.int .i64 day] w fun en w'=>en=.returned (.bool (KB && decide (least≤f∧f<t∧t<day∧fr≤t - f) && (if reel.size=0 then decide (i=0∧o=0) else NB && decide (0≤i∧i<day∧o=i+(t - f)∧o<day))))∧Gr w w':=by
 have hnew:=Cel.new w #[.int .i64 k,.int .i64 p,.int .i64 fr,.string reel,.int .i64 i,.int .i64 o,.int .i64 f,.int .i64 t] 38
 have HK:=Lib.hid HK
 have HN:=Lib.hid HN
 cases KB with
 | false=>
  rw [Bool.false_and,Bool.false_and]
  go_enter Tryz.func30,Tryz.ntmps30
  go_wp2_with (first | (go_at_call 57;(with_reducible refine (HK.out _).mono ?_);rintro e w1 ⟨rfl,hg1⟩;have k1:=hnew.gr hg1;have x1:=k1.lt;have z2:=(k1.2 2 _ rfl).1;have z3:=(k1.2 3 _ rfl).1;have z4:=(k1.2 4 _ rfl).1;have z5:=(k1.2 5 _ rfl).1;have z6:=(k1.2 6 _ rfl).1;have z7:=(k1.2 7 _ rfl).1))
  go_ret
  exact⟨by rfl,(by repeat (first | with_reducible exact Gr.refl _ | with_reducible assumption | refine Gr.setCell ?_ (by first | omega | (simp;done) | (simp;omega)) _ | refine Gr.alloc ?_ _ | refine Gr.drew ?_ | refine Gr.drewN ?_ _ | refine Gr.trans ?_ (by with_reducible assumption)))⟩
 | true=>
  rw [Bool.true_and]
  by_cases c0:f<least
  ·rw [decide_eq_false (by omega:¬ (least≤f∧f<t∧t<day∧fr≤t - f)),Bool.false_and]
   have q0:decide (f<least)=true:=decide_eq_true c0
   go_enter Tryz.func30,Tryz.ntmps30
   go_wp2_with (first | (go_at_call 57;(with_reducible refine (HK.out _).mono ?_);rintro e w1 ⟨rfl,hg1⟩;have k1:=hnew.gr hg1;have x1:=k1.lt;have z2:=(k1.2 2 _ rfl).1;have z3:=(k1.2 3 _ rfl).1;have z4:=(k1.2 4 _ rfl).1;have z5:=(k1.2 5 _ rfl).1;have z6:=(k1.2 6 _ rfl).1;have z7:=(k1.2 7 _ rfl).1))
   go_ret
   exact⟨by rfl,(by repeat (first | with_reducible exact Gr.refl _ | with_reducible assumption | refine Gr.setCell ?_ (by first | omega | (simp;done) | (simp;omega)) _ | refine Gr.alloc ?_ _ | refine Gr.drew ?_ | refine Gr.drewN ?_ _ | refine Gr.trans ?_ (by with_reducible assumption)))⟩
  have q0:decide (f<least)=false:=decide_eq_false c0
  by_cases c1:t≤f
  ·rw [decide_eq_false (by omega:¬ (least≤f∧f<t∧t<day∧fr≤t - f)),Bool.false_and]
   have q1:decide (t≤f)=true:=decide_eq_true c1
   go_enter Tryz.func30,Tryz.ntmps30
   go_wp2_with (first | (go_at_call 57;(with_reducible refine (HK.out _).mono ?_);rintro e w1 ⟨rfl,hg1⟩;have k1:=hnew.gr hg1;have x1:=k1.lt;have z2:=(k1.2 2 _ rfl).1;have z3:=(k1.2 3 _ rfl).1;have z4:=(k1.2 4 _ rfl).1;have z5:=(k1.2 5 _ rfl).1;have z6:=(k1.2 6 _ rfl).1;have z7:=(k1.2 7 _ rfl).1))
   go_ret
   exact⟨by rfl,(by repeat (first | with_reducible exact Gr.refl _ | with_reducible assumption | refine Gr.setCell ?_ (by first | omega | (simp;done) | (simp;omega)) _ | refine Gr.alloc ?_ _ | refine Gr.drew ?_ | refine Gr.drewN ?_ _ | refine Gr.trans ?_ (by with_reducible assumption)))⟩
  have q1:decide (t≤f)=false:=decide_eq_false c1
  by_cases c2:day≤t
  ·rw [decide_eq_false (by omega:¬ (least≤f∧f<t∧t<day∧fr≤t - f)),Bool.false_and]
   have q2:decide (day≤t)=true:=decide_eq_true c2
   go_enter Tryz.func30,Tryz.ntmps30
   go_wp2_with (first | (go_at_call 57;(with_reducible refine (HK.out _).mono ?_);rintro e w1 ⟨rfl,hg1⟩;have k1:=hnew.gr hg1;have x1:=k1.lt;have z2:=(k1.2 2 _ rfl).1;have z3:=(k1.2 3 _ rfl).1;have z4:=(k1.2 4 _ rfl).1;have z5:=(k1.2 5 _ rfl).1;have z6:=(k1.2 6 _ rfl).1;have z7:=(k1.2 7 _ rfl).1))
   go_ret
   exact⟨by rfl,(by repeat (first | with_reducible exact Gr.refl _ | with_reducible assumption | refine Gr.setCell ?_ (by first | omega | (simp;done) | (simp;omega)) _ | refine Gr.alloc ?_ _ | refine Gr.drew ?_ | refine Gr.drewN ?_ _ | refine Gr.trans ?_ (by with_reducible assumption)))⟩
  have q2:decide (day≤t)=false:=decide_eq_false c2
  by_cases c3:t - f<fr
  ·rw [decide_eq_false (by omega:¬ (least≤f∧f<t∧t<day∧fr≤t - f)),Bool.false_and]
   have q3:decide (t - f<fr)=true:=decide_eq_true c3
   go_enter Tryz.func30,Tryz.ntmps30
   go_wp2_with (first | (go_at_call 57;(with_reducible refine (HK.out _).mono ?_);rintro e w1 ⟨rfl,hg1⟩;have k1:=hnew.gr hg1;have x1:=k1.lt;have z2:=(k1.2 2 _ rfl).1;have z3:=(k1.2 3 _ rfl).1;have z4:=(k1.2 4 _ rfl).1;have z5:=(k1.2 5 _ rfl).1;have z6:=(k1.2 6 _ rfl).1;have z7:=(k1.2 7 _ rfl).1))
   go_ret
   exact⟨by rfl,(by repeat (first | with_reducible exact Gr.refl _ | with_reducible assumption | refine Gr.setCell ?_ (by first | omega | (simp;done) | (simp;omega)) _ | refine Gr.alloc ?_ _ | refine Gr.drew ?_ | refine Gr.drewN ?_ _ | refine Gr.trans ?_ (by with_reducible assumption)))⟩
  have q3:decide (t - f<fr)=false:=decide_eq_false c3
  rw [decide_eq_true (by omega:least≤f∧f<t∧t<day∧fr≤t - f),Bool.true_and]
  by_cases hr:reel.size=0
  ·rw [if_pos hr]
   have hr2:reel.toList.isEmpty=true:=by rw [size_zero_iff];exact decide_eq_true hr
   by_cases d0:i=0
   ·have g0:(i == 0)=true:=by simp [d0]
    replace d0:Hid (i=0):=d0
    by_cases d1:o=0
    ·have g1:(o == 0)=true:=by simp [d1]
     replace d1:Hid (o=0):=d1
     go_enter Tryz.func30,Tryz.ntmps30
     go_wp2_with (first | (go_at_call 57;(with_reducible refine (HK.out _).mono ?_);rintro e w1 ⟨rfl,hg1⟩;have k1:=hnew.gr hg1;have x1:=k1.lt;have z2:=(k1.2 2 _ rfl).1;have z3:=(k1.2 3 _ rfl).1;have z4:=(k1.2 4 _ rfl).1;have z5:=(k1.2 5 _ rfl).1;have z6:=(k1.2 6 _ rfl).1;have z7:=(k1.2 7 _ rfl).1))
     go_ret
     exact⟨by simp [d0.out,d1.out],(by repeat (first | with_reducible exact Gr.refl _ | with_reducible assumption | refine Gr.setCell ?_ (by first | omega | (simp;done) | (simp;omega)) _ | refine Gr.alloc ?_ _ | refine Gr.drew ?_ | refine Gr.drewN ?_ _ | refine Gr.trans ?_ (by with_reducible assumption)))⟩
    ·have g1:(o == 0)=false:=by simp [d1]
     go_enter Tryz.func30,Tryz.ntmps30
     go_wp2_with (first | (go_at_call 57;(with_reducible refine (HK.out _).mono ?_);rintro e w1 ⟨rfl,hg1⟩;have k1:=hnew.gr hg1;have x1:=k1.lt;have z2:=(k1.2 2 _ rfl).1;have z3:=(k1.2 3 _ rfl).1;have z4:=(k1.2 4 _ rfl).1;have z5:=(k1.2 5 _ rfl).1;have z6:=(k1.2 6 _ rfl).1;have z7:=(k1.2 7 _ rfl).1))
     go_ret
     exact⟨by simp [d0.out,d1],(by repeat (first | with_reducible exact Gr.refl _ | with_reducible assumption | refine Gr.setCell ?_ (by first | omega | (simp;done) | (simp;omega)) _ | refine Gr.alloc ?_ _ | refine Gr.drew ?_ | refine Gr.drewN ?_ _ | refine Gr.trans ?_ (by with_reducible assumption)))⟩
   ·have g0:(i == 0)=false:=by simp [d0]
    go_enter Tryz.func30,Tryz.ntmps30
    go_wp2_with (first | (go_at_call 57;(with_reducible refine (HK.out _).mono ?_);rintro e w1 ⟨rfl,hg1⟩;have k1:=hnew.gr hg1;have x1:=k1.lt;have z2:=(k1.2 2 _ rfl).1;have z3:=(k1.2 3 _ rfl).1;have z4:=(k1.2 4 _ rfl).1;have z5:=(k1.2 5 _ rfl).1;have z6:=(k1.2 6 _ rfl).1;have z7:=(k1.2 7 _ rfl).1))
    go_ret
    exact⟨by simp [d0],(by repeat (first | with_reducible exact Gr.refl _ | with_reducible assumption | refine Gr.setCell ?_ (by first | omega | (simp;done) | (simp;omega)) _ | refine Gr.alloc ?_ _ | refine Gr.drew ?_ | refine Gr.drewN ?_ _ | refine Gr.trans ?_ (by with_reducible assumption)))⟩
  ·rw [if_neg hr]
   have hr2:reel.toList.isEmpty=false:=by rw [size_zero_iff];exact decide_eq_false hr
   cases NB with
   | false=>
    rw [Bool.false_and]
    go_enter Tryz.func30,Tryz.ntmps30
    go_wp2_with (first | (go_at_call 57;(with_reducible refine (HK.out _).mono ?_);rintro e w1 ⟨rfl,hg1⟩;have k1:=hnew.gr hg1;have x1:=k1.lt;have z2:=(k1.2 2 _ rfl).1;have z3:=(k1.2 3 _ rfl).1;have z4:=(k1.2 4 _ rfl).1;have z5:=(k1.2 5 _ rfl).1;have z6:=(k1.2 6 _ rfl).1;have z7:=(k1.2 7 _ rfl).1) | (go_at_call 58;(with_reducible refine (HN.out _).mono ?_);rintro e w2 ⟨rfl,hg2⟩;have k2:=k1.gr hg2;have x2:=k2.lt;have y2:=(k2.2 2 _ rfl).1;have y3:=(k2.2 3 _ rfl).1;have y4:=(k2.2 4 _ rfl).1;have y5:=(k2.2 5 _ rfl).1;have y6:=(k2.2 6 _ rfl).1;have y7:=(k2.2 7 _ rfl).1))
    go_ret
    exact⟨by rfl,(by repeat (first | with_reducible exact Gr.refl _ | with_reducible assumption | refine Gr.setCell ?_ (by first | omega | (simp;done) | (simp;omega)) _ | refine Gr.alloc ?_ _ | refine Gr.drew ?_ | refine Gr.drewN ?_ _ | refine Gr.trans ?_ (by with_reducible assumption)))⟩
   | true=>
    rw [Bool.true_and]
    by_cases d0:0≤i
    case neg=>
     have g0:decide (0≤i)=false:=decide_eq_false d0
     rw [decide_eq_false (by omega:¬ (0≤i∧i<day∧o=i+(t - f)∧o<day))]
     go_enter Tryz.func30,Tryz.ntmps30
     go_wp2_with (first | (go_at_call 57;(with_reducible refine (HK.out _).mono ?_);rintro e w1 ⟨rfl,hg1⟩;have k1:=hnew.gr hg1;have x1:=k1.lt;have z2:=(k1.2 2 _ rfl).1;have z3:=(k1.2 3 _ rfl).1;have z4:=(k1.2 4 _ rfl).1;have z5:=(k1.2 5 _ rfl).1;have z6:=(k1.2 6 _ rfl).1;have z7:=(k1.2 7 _ rfl).1) | (go_at_call 58;(with_reducible refine (HN.out _).mono ?_);rintro e w2 ⟨rfl,hg2⟩;have k2:=k1.gr hg2;have x2:=k2.lt;have y2:=(k2.2 2 _ rfl).1;have y3:=(k2.2 3 _ rfl).1;have y4:=(k2.2 4 _ rfl).1;have y5:=(k2.2 5 _ rfl).1;have y6:=(k2.2 6 _ rfl).1;have y7:=(k2.2 7 _ rfl).1))
     go_ret
     exact⟨by simp [d0],(by repeat (first | with_reducible exact Gr.refl _ | with_reducible assumption | refine Gr.setCell ?_ (by first | omega | (simp;done) | (simp;omega)) _ | refine Gr.alloc ?_ _ | refine Gr.drew ?_ | refine Gr.drewN ?_ _ | refine Gr.trans ?_ (by with_reducible assumption)))⟩
    case pos=>
     have g0:decide (0≤i)=true:=decide_eq_true d0
     by_cases d1:i<day
     case neg=>
      have g1:decide (i<day)=false:=decide_eq_false d1
      rw [decide_eq_false (by omega:¬ (0≤i∧i<day∧o=i+(t - f)∧o<day))]
      go_enter Tryz.func30,Tryz.ntmps30
      go_wp2_with (first | (go_at_call 57;(with_reducible refine (HK.out _).mono ?_);rintro e w1 ⟨rfl,hg1⟩;have k1:=hnew.gr hg1;have x1:=k1.lt;have z2:=(k1.2 2 _ rfl).1;have z3:=(k1.2 3 _ rfl).1;have z4:=(k1.2 4 _ rfl).1;have z5:=(k1.2 5 _ rfl).1;have z6:=(k1.2 6 _ rfl).1;have z7:=(k1.2 7 _ rfl).1) | (go_at_call 58;(with_reducible refine (HN.out _).mono ?_);rintro e w2 ⟨rfl,hg2⟩;have k2:=k1.gr hg2;have x2:=k2.lt;have y2:=(k2.2 2 _ rfl).1;have y3:=(k2.2 3 _ rfl).1;have y4:=(k2.2 4 _ rfl).1;have y5:=(k2.2 5 _ rfl).1;have y6:=(k2.2 6 _ rfl).1;have y7:=(k2.2 7 _ rfl).1))
      go_ret
      exact⟨by simp [d1],(by repeat (first | with_reducible exact Gr.refl _ | with_reducible assumption | refine Gr.setCell ?_ (by first | omega | (simp;done) | (simp;omega)) _ | refine Gr.alloc ?_ _ | refine Gr.drew ?_ | refine Gr.drewN ?_ _ | refine Gr.trans ?_ (by with_reducible assumption)))⟩
     case pos=>
      have g1:decide (i<day)=true:=decide_eq_true d1
      by_cases d2:o=i+(t - f)
      case neg=>
       have g2:(o == i+(t - f))=false:=by simp [d2]
       rw [decide_eq_false (by omega:¬ (0≤i∧i<day∧o=i+(t - f)∧o<day))]
       go_enter Tryz.func30,Tryz.ntmps30
       go_wp2_with (first | (go_at_call 57;(with_reducible refine (HK.out _).mono ?_);rintro e w1 ⟨rfl,hg1⟩;have k1:=hnew.gr hg1;have x1:=k1.lt;have z2:=(k1.2 2 _ rfl).1;have z3:=(k1.2 3 _ rfl).1;have z4:=(k1.2 4 _ rfl).1;have z5:=(k1.2 5 _ rfl).1;have z6:=(k1.2 6 _ rfl).1;have z7:=(k1.2 7 _ rfl).1) | (go_at_call 58;(with_reducible refine (HN.out _).mono ?_);rintro e w2 ⟨rfl,hg2⟩;have k2:=k1.gr hg2;have x2:=k2.lt;have y2:=(k2.2 2 _ rfl).1;have y3:=(k2.2 3 _ rfl).1;have y4:=(k2.2 4 _ rfl).1;have y5:=(k2.2 5 _ rfl).1;have y6:=(k2.2 6 _ rfl).1;have y7:=(k2.2 7 _ rfl).1))
       go_ret
       exact⟨by simp [d2],(by repeat (first | with_reducible exact Gr.refl _ | with_reducible assumption | refine Gr.setCell ?_ (by first | omega | (simp;done) | (simp;omega)) _ | refine Gr.alloc ?_ _ | refine Gr.drew ?_ | refine Gr.drewN ?_ _ | refine Gr.trans ?_ (by with_reducible assumption)))⟩
      case pos=>
       have g2:(o == i+(t - f))=true:=by rw [d2];simp
       replace d2:Hid (o=i+(t - f)):=d2
       by_cases d3:o<day
       case neg=>
        have g3:decide (o<day)=false:=decide_eq_false d3
        rw [decide_eq_false (by have:=d2.out;omega:¬ (0≤i∧i<day∧o=i+(t - f)∧o<day))]
        go_enter Tryz.func30,Tryz.ntmps30
        go_wp2_with (first | (go_at_call 57;(with_reducible refine (HK.out _).mono ?_);rintro e w1 ⟨rfl,hg1⟩;have k1:=hnew.gr hg1;have x1:=k1.lt;have z2:=(k1.2 2 _ rfl).1;have z3:=(k1.2 3 _ rfl).1;have z4:=(k1.2 4 _ rfl).1;have z5:=(k1.2 5 _ rfl).1;have z6:=(k1.2 6 _ rfl).1;have z7:=(k1.2 7 _ rfl).1) | (go_at_call 58;(with_reducible refine (HN.out _).mono ?_);rintro e w2 ⟨rfl,hg2⟩;have k2:=k1.gr hg2;have x2:=k2.lt;have y2:=(k2.2 2 _ rfl).1;have y3:=(k2.2 3 _ rfl).1;have y4:=(k2.2 4 _ rfl).1;have y5:=(k2.2 5 _ rfl).1;have y6:=(k2.2 6 _ rfl).1;have y7:=(k2.2 7 _ rfl).1))
        go_ret
        exact⟨by simp [d3],(by repeat (first | with_reducible exact Gr.refl _ | with_reducible assumption | refine Gr.setCell ?_ (by first | omega | (simp;done) | (simp;omega)) _ | refine Gr.alloc ?_ _ | refine Gr.drew ?_ | refine Gr.drewN ?_ _ | refine Gr.trans ?_ (by with_reducible assumption)))⟩
       case pos=>
        have g3:decide (o<day)=true:=decide_eq_true d3
        rw [decide_eq_true (by have:=d2.out;omega:0≤i∧i<day∧o=i+(t - f)∧o<day)]
        go_enter Tryz.func30,Tryz.ntmps30
        go_wp2_with (first | (go_at_call 57;(with_reducible refine (HK.out _).mono ?_);rintro e w1 ⟨rfl,hg1⟩;have k1:=hnew.gr hg1;have x1:=k1.lt;have z2:=(k1.2 2 _ rfl).1;have z3:=(k1.2 3 _ rfl).1;have z4:=(k1.2 4 _ rfl).1;have z5:=(k1.2 5 _ rfl).1;have z6:=(k1.2 6 _ rfl).1;have z7:=(k1.2 7 _ rfl).1) | (go_at_call 58;(with_reducible refine (HN.out _).mono ?_);rintro e w2 ⟨rfl,hg2⟩;have k2:=k1.gr hg2;have x2:=k2.lt;have y2:=(k2.2 2 _ rfl).1;have y3:=(k2.2 3 _ rfl).1;have y4:=(k2.2 4 _ rfl).1;have y5:=(k2.2 5 _ rfl).1;have y6:=(k2.2 6 _ rfl).1;have y7:=(k2.2 7 _ rfl).1))
        go_ret
        exact⟨by simp [d3],(by repeat (first | with_reducible exact Gr.refl _ | with_reducible assumption | refine Gr.setCell ?_ (by first | omega | (simp;done) | (simp;omega)) _ | refine Gr.alloc ?_ _ | refine Gr.drew ?_ | refine Gr.drewN ?_ _ | refine Gr.trans ?_ (by with_reducible assumption)))⟩
theorem vevent_any (e:Ev) (least day:Int) (w:World) (hl:0≤least) (hd:day≤5184000) (hs:e.reel.size≤140737488355328) :
  Calls Tryz.prog 30 #[e.val,.int .i64 least,.int .i64 day] w fun en w'=>en=.returned (.bool (vEv e least day))∧Gr w w':=
 vevent_core e.k e.p e.fr e.i e.o e.f e.t least day e.reel (vKd e) (nmB e.reel) w hl hd (fun w=>vkind_any e w) (fun w=>validName_any e.reel w hs)
def eflat (es:List Ev):List Value:=es.flatMap Ev.cells
theorem eflat_length (es:List Ev):(eflat es).length=es.length * 8:=by
 induction es with
 | nil=>rfl
 | cons c cs ih=>
  rw [show eflat (c :: cs)=c.cells ++ eflat cs from rfl,List.length_append,ih]
  simp [Ev.cells]
  omega
theorem eflat_append (a b:List Ev):eflat (a ++ b)=eflat a ++ eflat b:=by unfold eflat;rw [List.flatMap_append]
theorem eflat_at (es:List Ev) (i:Nat) (hi:i<es.length) (j:Nat) (hj:j<8):(eflat es)[i * 8+j]?=es[i].cells[j]?:=by
 induction es generalizing i with
 | nil=>simp at hi
 | cons c cs ih=>
  rw [show eflat (c :: cs)=c.cells ++ eflat cs from rfl]
  have hl:c.cells.length=8:=rfl
  cases i with
  | zero=>
   rw [List.getElem?_append_left (by omega)]
   simp
  | succ i=>
   have h:=ih i (by simpa using hi)
   rw [List.getElem?_append_right (by omega),hl,show (i+1) * 8+j - 8=i * 8+j by omega,h]
   simp
def EvsR (W:World) (v:Value) (es:List Ev):Prop:=Rd W v es.length 8 (eflat es)
theorem EvsR.gr {W w:World} {v:Value} {es:List Ev} (hg:Gr W w) (h:EvsR W v es):EvsR w v es:=Rd.gr hg h
theorem EvsR.nil (W:World):EvsR W (.slice none 0 0) []:=Rd.nil W 8
theorem EvsR.shape {W:World} {v:Value} {es:List Ev} (h:EvsR W v es):∃ a cap,v=.slice a es.length cap ∧
  (es.length=0∨∃ b o,a=some ⟨b,o,none⟩∧b<W.heap.size∧∀ (i:Nat) (hi:i<es.length) (j:Nat) (u:Value),es[i].cells[j]?=some u→W.cell? ⟨b,o+i * 8+j,none⟩=some u):=by
 obtain⟨_,a,cap,rfl,h0 | ⟨b,o,rfl,hb,hc⟩⟩:=h
 ·exact⟨a,cap,rfl,.inl h0.1⟩
 ·refine⟨_,cap,rfl,.inr ⟨b,o,rfl,hb,fun i hi j u hu=>?_⟩⟩
  have hj:j<8:=by
   have:=(List.getElem?_eq_some_iff.1 hu).1
   exact this
  rw [Nat.add_assoc]
  exact hc _ _ (by rw [eflat_at es i hi j hj];exact hu)
structure El where
 title:ByteArray
 base:Int
 drop:Bool
 evs:List Ev
def El.val (l:El) (v:Value):Value:=.agg #[.string l.title,.int .i64 l.base,.bool l.drop,v]
def vEl (l:El):Bool:=C19.okB l.base l.drop && (vLine l.title && (decide (l.evs.length≤999) && vEvs (C19.dayN l.base l.drop) 0 l.evs))
structure ElR (w:World) (v:Value) (l:El):Prop where
 evs:EvsR w v l.evs
 t:l.title.size≤140737488355328
 r:∀ e∈l.evs,e.reel.size≤140737488355328
 n:l.evs.length≤140737488355328
theorem ElR.gr {w w':World} {v:Value} {l:El} (hg:Gr w w') (h:ElR w v l):ElR w' v l:=⟨h.evs.gr hg,h.t,h.r,h.n⟩
theorem day_bounds {b:Int} {d:Bool} (h:C19.okB b d=true):0<C19.dayN b d∧C19.dayN b d≤5184000:=by
 have:=C19.okB_bounds h
 unfold C19.dayN C19.drp
 split <;> omega
theorem vEvs_step {day least:Int} {es:List Ev} {i:Nat} (h:i<es.length):vEvs day least (es.drop i)=(vEv es[i] least day && vEvs day es[i].t (es.drop (i+1))):=by
 rw [List.drop_eq_getElem_cons h]
 rfl
theorem ev_cells {W w:World} {b o:Nat} {es:List Ev} {i:Nat} (hi:i<es.length) (hb:b<W.heap.size) (hg:Gr W w) (hc:∀ (i:Nat) (hi:i<es.length) (j:Nat) (u:Value),es[i].cells[j]?=some u→W.cell? ⟨b,o+i * 8+j,none⟩=some u) :
  w.cell? ⟨b,o+i * 8,none⟩=some (.int .i64 es[i].k)∧w.cell? ⟨b,o+i * 8+1,none⟩=some (.int .i64 es[i].p)∧w.cell? ⟨b,o+i * 8+2,none⟩=some (.int .i64 es[i].fr)∧w.cell? ⟨b,o+i * 8+3,none⟩=some (.string es[i].reel) ∧
  w.cell? ⟨b,o+i * 8+4,none⟩=some (.int .i64 es[i].i)∧w.cell? ⟨b,o+i * 8+5,none⟩=some (.int .i64 es[i].o)∧w.cell? ⟨b,o+i * 8+6,none⟩=some (.int .i64 es[i].f)∧w.cell? ⟨b,o+i * 8+7,none⟩=some (.int .i64 es[i].t):=by
 have h:=fun j u hu=>(hg.cells.1 b (o+i * 8+j) hb).trans (hc i hi j u hu)
 exact⟨h 0 _ rfl,h 1 _ rfl,h 2 _ rfl,h 3 _ rfl,h 4 _ rfl,h 5 _ rfl,h 6 _ rfl,h 7 _ rfl⟩
end Go.Proofs.YtnginfangeikpaaGreatDoor
