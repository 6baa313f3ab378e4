/-
  Walk of the law EdlLines, over the contracts of what it calls.
  Conditions: those contracts.
-/
import Derived.Test.YtgbiodnfpbhjiaaGreatDoorWalkFx
import Derived.Test.YtgbiodnfpbhjiaaGreatDoorWalkEh
import Derived.Test.YtgbiodnfpbhjiaaGreatDoorWalkEx
import Derived.Test.YtgbiodnfpbhjiaaGreatDoorWalkUe
namespace Go.Proofs.YtgbiodnfpbhjiaaGreatDoor
open Go.RowKit Go.Lib
set_option linter.unusedSimpArgs false
set_option linter.unusedVariables false
theorem VE.mono {e:Ev} {n d1 d2:Int} (h:VE e n d1) (hd:d1≤d2):VE e n d2:=
 ⟨h.kd,h.l,h.ft,by have:=h.d;omega,h.fr,by rcases h.rl with q | ⟨q1,q2,q3,q4,q5,q6⟩;exact .inl q;exact .inr ⟨q1,q2,q3,by omega,q5,by omega⟩⟩
theorem vEvs_mono {d1 d2:Int} (hd:d1≤d2):∀ {l:List Ev} {n:Int},vEvs d1 n l=true→vEvs d2 n l=true
 | [],_,_=>rfl
 | e :: l,n,h=>by
  obtain⟨h1,h2⟩:=vEvs_cons.1 h
  exact vEvs_cons.2 ⟨h1.mono hd,vEvs_mono hd h2⟩
theorem emade_ok {l:El} (h:MadeE l):vEl l=true:=by
 have ho:C19.okB l.base l.drop=true:=by
  have hb:=h.b
  have hd:=h.d
  unfold isBs at hb
  cases hq:l.drop with
  | false=>rcases hb with e | e | e | e <;> rw [e] <;> decide
  | true=>rcases hd hq with e | e <;> rw [e] <;> decide
 have hday:30000≤C19.dayN l.base l.drop:=by
  obtain⟨b1,b2,b3,b4⟩:=C19.okB_bounds ho
  unfold C19.dayN
  omega
 have ht:∀ s∈titlesL,vLine s=true:=by decide +kernel
 unfold vEl
 rw [ho,ht _ h.t,decide_eq_true (show l.evs.length≤999 by have:=h.n;omega),vEvs_mono hday h.v]
 rfl
theorem TrkP.gr {l:El} {E:Int} {v:Value} {w w':World} (h:TrkP l E v w) (hg:Gr w w'):TrkP l E v w':=by
 rcases h with h | h | ⟨h1,h2,h3,ts,h4,h5⟩
 ·exact .inl h
 ·exact .inr (.inl h)
 ·exact .inr (.inr ⟨h1,h2,h3,ts,h4.gr hg,h5⟩)
theorem own_cap {W:World} {base size n:Nat} {e:TypeId} {v:Value} {xs:List Value} (h:W.ownsRow base e size v n xs):∀ a m c,v=.slice a m c→m≤c:=fun a m c hv=>by
 rcases h.2 with ⟨e1,_⟩ | ⟨g,cap,cur,e1,_,_,h3,_⟩
 ·rw [e1] at hv;injection hv with h1 h2 h3;omega
 ·rw [e1] at hv;injection hv with h1 h2 h4;omega
end Go.Proofs.YtgbiodnfpbhjiaaGreatDoor
