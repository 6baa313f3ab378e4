/-
  Plain arithmetic: sums and products of fractions in lowest terms. No program in sight.
  Conditions: none.
-/
import Derived.Test.YtnginfangeikpaaGreatDoorWalkF
namespace Go.Proofs.YtnginfangeikpaaGreatDoor
open Go.RowKit
set_option linter.unusedVariables false
theorem gc_comm (x y:Int):gc x y=gc y x:=by unfold gc;rw [Int.gcd_comm]
theorem gc_one_iff {x y:Int}:gc x y=1↔Nat.Coprime x.natAbs y.natAbs:=by unfold gc Nat.Coprime Int.gcd;omega
theorem gc_mul_left (k x y:Int) (hk:0≤k):gc (k * x) (k * y)=k * gc x y:=by
 unfold gc
 rw [Int.gcd_mul_left,Int.natCast_mul]
 congr 1
 omega
theorem gc_rest (x y:Int) (hy:0<y):gc (mg x % y) y=gc x y:=by
 rw [gc_comm,gc_step (mg x) y (mg_nonneg x) (by omega),gc_mg]
theorem gc_drop {x a b:Int} (h:gc x a=1):gc x (a * b)=gc x b:=by
 rw [gc_one_iff] at h
 unfold gc Int.gcd
 rw [Int.natAbs_mul,Nat.Coprime.gcd_mul_left_cancel_right _ h.symm]
theorem gc_quots {x y:Int} (h:0<gc x y):gc (x / gc x y) (y / gc x y)=1:=by
 have e1:=Int.mul_ediv_cancel' (gc_dvd_left x y)
 have e2:=Int.mul_ediv_cancel' (gc_dvd_right x y)
 have h2:=gc_mul_left (gc x y) (x / gc x y) (y / gc x y) (by omega)
 rw [e1,e2] at h2
 have h3:gc x y * gc (x / gc x y) (y / gc x y)=gc x y * 1:=by omega
 exact Int.eq_of_mul_eq_mul_left (by omega) h3
theorem coprime_sum {n b m a:Int} (h1:gc n a=1) (h2:gc b a=1):gc (n * b+m * a) a=1:=by
 rw [gc_one_iff] at *
 have hd:Nat.gcd (n * b+m * a).natAbs a.natAbs ∣ (n * b).natAbs:=by
  have d1:((Nat.gcd (n * b+m * a).natAbs a.natAbs:Nat):Int) ∣ n * b+m * a:=Int.ofNat_dvd_left.2 (Nat.gcd_dvd_left _ _)
  have d2:((Nat.gcd (n * b+m * a).natAbs a.natAbs:Nat):Int) ∣ a:=Int.ofNat_dvd_left.2 (Nat.gcd_dvd_right _ _)
  have d3:=Int.dvd_sub d1 (Int.dvd_trans d2 (Int.dvd_mul_left m a))
  rw [Int.add_sub_cancel] at d3
  exact Int.ofNat_dvd_left.1 d3
 rw [Int.natAbs_mul] at hd
 have hg:Nat.gcd (n * b+m * a).natAbs a.natAbs ∣ a.natAbs:=Nat.gcd_dvd_right _ _
 have c1:Nat.Coprime (Nat.gcd (n * b+m * a).natAbs a.natAbs) n.natAbs:=(Nat.Coprime.coprime_dvd_left hg h1.symm)
 have c2:Nat.Coprime (Nat.gcd (n * b+m * a).natAbs a.natAbs) b.natAbs:=(Nat.Coprime.coprime_dvd_left hg h2.symm)
 have hc:Nat.Coprime (Nat.gcd (n * b+m * a).natAbs a.natAbs) (n.natAbs * b.natAbs):=Nat.Coprime.mul_right c1 c2
 exact Nat.Coprime.eq_one_of_dvd hc hd
theorem gc_dvd_one {x y z:Int} (h:gc x y=1) (hz:z ∣ y):gc x z=1:=by
 rw [gc_one_iff] at *
 exact Nat.Coprime.coprime_dvd_right (Int.natAbs_dvd_natAbs.2 hz) h
theorem add_parts {an ad bn bd:Int} (ha:gc an ad=1) (hb:gc bn bd=1) (h1:1≤ad) (h2:1≤bd) :
  ∃ g h S:Int,gc ad bd=g∧1≤g∧g≤ad∧g≤bd∧an * (bd / g)+bn * (ad / g)=S∧gc (mg S % g) g=h∧1≤h∧h≤g∧an * bd+bn * ad=g * S ∧
   gc (an * bd+bn * ad) (ad * bd)=g * h∧(an * bd+bn * ad) / (g * h)=S / h∧(ad * bd) / (g * h)=ad / g * (bd / h)∧mg S % h=0:=by
 have g0:0<gc ad bd:=gc_pos_left ad bd (by omega)
 obtain⟨g,hg⟩:∃ g,gc ad bd=g:=⟨_,rfl⟩
 have eA:g * (ad / g)=ad:=by rw [← hg];exact Int.mul_ediv_cancel' (gc_dvd_left ad bd)
 have eB:g * (bd / g)=bd:=by rw [← hg];exact Int.mul_ediv_cancel' (gc_dvd_right ad bd)
 have hq:gc (ad / g) (bd / g)=1:=by rw [← hg];exact gc_quots g0
 have gl:=gc_le_left ad bd (by omega)
 have gr:=gc_le_right ad bd (by omega)
 rw [hg] at g0 gl gr
 obtain⟨α,hα⟩:∃ α,ad / g=α:=⟨_,rfl⟩
 obtain⟨β,hβ⟩:∃ β,bd / g=β:=⟨_,rfl⟩
 rw [hα,hβ] at hq
 rw [hα] at eA
 rw [hβ] at eB
 obtain⟨S,hS⟩:∃ S,an * β+bn * α=S:=⟨_,rfl⟩
 have cA:gc S α=1:=by
  rw [← hS]
  exact coprime_sum (gc_dvd_one ha ⟨g,by rw [Int.mul_comm];exact eA.symm⟩) (by rw [gc_comm];exact hq)
 have cB:gc S β=1:=by
  rw [← hS,Int.add_comm]
  exact coprime_sum (gc_dvd_one hb ⟨g,by rw [Int.mul_comm];exact eB.symm⟩) hq
 have hh:gc (mg S % g) g=gc S g:=gc_rest S g g0
 obtain⟨h,eh⟩:∃ h,gc S g=h:=⟨_,rfl⟩
 have h0:0<h:=by rw [← eh];exact gc_pos_right S g g0
 have hl:h≤g:=by rw [← eh];exact gc_le_right S g g0
 have eX:an * bd+bn * ad=g * S:=by
  rw [← hS,← eA,← eB,Int.mul_add,Int.mul_left_comm an g β,Int.mul_left_comm bn g α]
 have eY:ad * bd=g * (α * (β * g)):=by
  have:ad * bd=(g * α) * (g * β):=by rw [eA,eB]
  rw [this,Int.mul_assoc]
  congr 1
  rw [Int.mul_left_comm α g β,Int.mul_comm β g,Int.mul_left_comm α g β]
 have eG:gc (an * bd+bn * ad) (ad * bd)=g * h:=by
  rw [eX,eY,gc_mul_left _ _ _ (by omega),gc_drop cA,gc_drop cB,eh]
 have dS:h ∣ S:=by rw [← eh];exact gc_dvd_left S g
 have dg:h ∣ g:=by rw [← eh];exact gc_dvd_right S g
 refine⟨g,h,S,hg,by omega,gl,gr,by rw [hα,hβ];exact hS,hh.trans eh,by omega,hl,eX,eG,?_,?_,?_⟩
 ·rw [eX,Int.mul_ediv_mul_of_pos _ _ g0]
 ·rw [hα]
  obtain⟨k,rfl⟩:=dg
  rw [eY,Int.mul_ediv_mul_of_pos _ _ g0]
  have e1:bd / h=k * β:=by
   rw [← eB,Int.mul_assoc,Int.mul_ediv_cancel_left _ (by omega)]
  rw [e1]
  have e2:α * (β * (h * k))=h * (α * (k * β)):=by
   rw [Int.mul_left_comm β h k,Int.mul_left_comm α h (β * k),Int.mul_comm β k]
  rw [e2,Int.mul_ediv_cancel_left _ (by omega)]
 ·rw [mg_abs]
  have:(h:Int) ∣ (S.natAbs:Int):=Int.dvd_natAbs.2 dS
  exact Int.emod_eq_zero_of_dvd this
theorem mul_parts {an ad bn bd:Int} (ha:gc an ad=1) (hb:gc bn bd=1) (h1:1≤ad) (h2:1≤bd) :
  ∃ g h:Int,gc (mg an) bd=g∧gc (mg bn) ad=h∧1≤g∧g≤bd∧1≤h∧h≤ad∧g ∣ an∧h ∣ bn∧g ∣ bd∧h ∣ ad ∧
   gc (an * bn) (ad * bd)=g * h∧(an * bn) / (g * h)=an / g * (bn / h)∧(ad * bd) / (g * h)=ad / h * (bd / g):=by
 rw [gc_mg,gc_mg]
 obtain⟨g,hg⟩:∃ g,gc an bd=g:=⟨_,rfl⟩
 obtain⟨h,hh⟩:∃ h,gc bn ad=h:=⟨_,rfl⟩
 have g0:0<g:=by rw [← hg];exact gc_pos_right _ _ (by omega)
 have h0:0<h:=by rw [← hh];exact gc_pos_right _ _ (by omega)
 have gl:g≤bd:=by rw [← hg];exact gc_le_right _ _ (by omega)
 have hl:h≤ad:=by rw [← hh];exact gc_le_right _ _ (by omega)
 have q1:gc (an / g) (bd / g)=1:=by rw [← hg];exact gc_quots (by omega)
 have q2:gc (bn / h) (ad / h)=1:=by rw [← hh];exact gc_quots (by omega)
 have d1:g ∣ an:=by rw [← hg];exact gc_dvd_left _ _
 have d2:g ∣ bd:=by rw [← hg];exact gc_dvd_right _ _
 have d3:h ∣ bn:=by rw [← hh];exact gc_dvd_left _ _
 have d4:h ∣ ad:=by rw [← hh];exact gc_dvd_right _ _
 obtain⟨a',rfl⟩:=d1
 obtain⟨b',rfl⟩:=d2
 obtain⟨c',rfl⟩:=d3
 obtain⟨d',rfl⟩:=d4
 rw [Int.mul_ediv_cancel_left _ (by omega),Int.mul_ediv_cancel_left _ (by omega)] at q1 q2
 have q3:gc a' d'=1:=by
  have:=gc_dvd_one ha (z:=d') ⟨h,Int.mul_comm _ _⟩
  rw [gc_comm] at this ⊢
  exact gc_dvd_one this ⟨g,Int.mul_comm _ _⟩
 have q4:gc c' b'=1:=by
  have:=gc_dvd_one hb (z:=b') ⟨g,Int.mul_comm _ _⟩
  rw [gc_comm] at this ⊢
  exact gc_dvd_one this ⟨h,Int.mul_comm _ _⟩
 have eX:g * a' * (h * c')=g * h * (a' * c'):=by rw [Int.mul_assoc,Int.mul_left_comm a' h c',← Int.mul_assoc]
 have eY:h * d' * (g * b')=g * h * (d' * b'):=by rw [Int.mul_assoc,Int.mul_left_comm d' g b',← Int.mul_assoc,Int.mul_comm h g]
 have gh:0<g * h:=Int.mul_pos g0 h0
 have hc:gc (a' * c') (d' * b')=1:=by
  rw [gc_one_iff] at *
  rw [Int.natAbs_mul,Int.natAbs_mul]
  exact Nat.Coprime.mul_left (Nat.Coprime.mul_right q3 q1) (Nat.Coprime.mul_right q2 q4)
 refine⟨g,h,hg,hh,by omega,gl,by omega,hl,⟨a',rfl⟩,⟨c',rfl⟩,⟨b',rfl⟩,⟨d',rfl⟩,?_,?_,?_⟩
 ·rw [eX,eY,gc_mul_left _ _ _ (by omega),hc,Int.mul_one]
 ·rw [eX,Int.mul_ediv_cancel_left _ (by omega),Int.mul_ediv_cancel_left _ (by omega),Int.mul_ediv_cancel_left _ (by omega)]
 ·rw [eY,Int.mul_ediv_cancel_left _ (by omega),Int.mul_ediv_cancel_left _ (by omega),Int.mul_ediv_cancel_left _ (by omega)]
theorem coprime_cross {x y x' y':Int} (h:gc x y=1) (h':gc x' y'=1) (hy:0<y) (hy':0<y') (e:x * y'=x' * y):x=x'∧y=y':=by
 rw [gc_one_iff] at h h'
 have en:x.natAbs * y'.natAbs=x'.natAbs * y.natAbs:=by rw [← Int.natAbs_mul,← Int.natAbs_mul,e]
 have d1:y.natAbs ∣ y'.natAbs:=by
  have:y.natAbs ∣ x.natAbs * y'.natAbs:=⟨x'.natAbs,by rw [en,Nat.mul_comm]⟩
  exact (Nat.Coprime.dvd_of_dvd_mul_left h.symm this)
 have d2:y'.natAbs ∣ y.natAbs:=by
  have:y'.natAbs ∣ x'.natAbs * y.natAbs:=⟨x.natAbs,by rw [← en,Nat.mul_comm]⟩
  exact (Nat.Coprime.dvd_of_dvd_mul_left h'.symm this)
 have ey:y=y':=by
  have:=Nat.dvd_antisymm d1 d2
  omega
 refine⟨?_,ey⟩
 subst ey
 exact Int.eq_of_mul_eq_mul_right (by omega) e
theorem red_ratio {X Y X' Y':Int} (hY:0<Y) (hY':0<Y') (e:X * Y'=X' * Y):X / gc X Y=X' / gc X' Y'∧Y / gc X Y=Y' / gc X' Y':=by
 have g0:=gc_pos_right X Y hY
 have g0':=gc_pos_right X' Y' hY'
 have q:=gc_quots g0
 have q':=gc_quots g0'
 have e1:=Int.mul_ediv_cancel' (gc_dvd_left X Y)
 have e2:=Int.mul_ediv_cancel' (gc_dvd_right X Y)
 have e1':=Int.mul_ediv_cancel' (gc_dvd_left X' Y')
 have e2':=Int.mul_ediv_cancel' (gc_dvd_right X' Y')
 generalize gc X Y=g at *
 generalize gc X' Y'=g' at *
 generalize X / g=x at *
 generalize Y / g=y at *
 generalize X' / g'=x' at *
 generalize Y' / g'=y' at *
 have y0:0<y:=by
  rcases Int.lt_or_le 0 y with h | h
  ·exact h
  ·have:=Int.mul_le_mul_of_nonneg_left h (show 0≤g by omega)
   omega
 have y0':0<y':=by
  rcases Int.lt_or_le 0 y' with h | h
  ·exact h
  ·have:=Int.mul_le_mul_of_nonneg_left h (show 0≤g' by omega)
   omega
 refine coprime_cross q q' y0 y0' ?_
 have:g * g' * (x * y')=g * g' * (x' * y):=by grind
 exact Int.eq_of_mul_eq_mul_left (by have:=Int.mul_pos g0 g0';omega) this
theorem red_unique {X Y X' Y':Int} (hY:0<Y) (hY':0<Y') (e:X * Y'=X' * Y):rF X Y=rF X' Y'∧rN X Y=rN X' Y'∧rD X Y=rD X' Y'∧rE X Y=rE X' Y':=by
 obtain⟨h1,h2⟩:=red_ratio hY hY' e
 have hF:rF X Y=rF X' Y':=by unfold rF;rw [mg_quot,mg_quot,h1,h2]
 refine⟨hF,?_,?_,?_⟩
 ·unfold rN;rw [hF,h1]
 ·unfold rD;rw [hF,h2]
 ·unfold rE;rw [hF]
theorem rE_zero {X Y:Int}:rE X Y=0↔rF X Y=true:=by
 unfold rE
 cases rF X Y <;> simp
theorem red_spec {X Y:Int} (hY:0<Y) (hE:rE X Y=0):vB (rN X Y) (rD X Y)=true∧rN X Y * Y=X * rD X Y∧0<rD X Y∧rD X Y≤9223372036854775807∧-9223372036854775807≤rN X Y∧rN X Y≤9223372036854775807:=by
 have hF:=rE_zero.1 hE
 have hF':=hF
 unfold rF at hF'
 rw [mg_quot] at hF'
 obtain⟨b1,b2⟩:=of_decide_eq_true hF'
 have g0:=gc_pos_right X Y hY
 have q:=gc_quots g0
 have e1:=Int.mul_ediv_cancel' (gc_dvd_left X Y)
 have e2:=Int.mul_ediv_cancel' (gc_dvd_right X Y)
 have eN:rN X Y=X / gc X Y:=by unfold rN;rw [hF];rfl
 have eD:rD X Y=Y / gc X Y:=by unfold rD;rw [hF];rfl
 rw [eN,eD]
 have m1:mg (X / gc X Y)=if X / gc X Y<0 then -(X / gc X Y) else X / gc X Y:=rfl
 generalize gc X Y=g at *
 generalize X / g=x at *
 generalize Y / g=y at *
 have y0:0<y:=by
  rcases Int.lt_or_le 0 y with h | h
  ·exact h
  ·have:=Int.mul_le_mul_of_nonneg_left h (show 0≤g by omega)
   omega
 refine⟨vB_true (by omega) (by split at m1 <;> omega) q,by grind,y0,b2,by split at m1 <;> omega,by split at m1 <;> omega⟩
theorem red_self {n d:Int} (h:vB n d=true) (hn:n≤9223372036854775807) (hd:d≤9223372036854775807):rN n d=n∧rD n d=d∧rE n d=0:=by
 obtain⟨h1,h2,h3⟩:=vB_inv h
 have hF:rF n d=true:=by
  unfold rF
  rw [h3,Int.ediv_one,Int.ediv_one]
  refine decide_eq_true ⟨?_,hd⟩
  unfold mg;split <;> omega
 unfold rN rD rE
 rw [hF,h3,Int.ediv_one,Int.ediv_one]
 exact⟨rfl,rfl,rfl⟩
section
variable {an ad bn bd cn cd:Int}
end
end Go.Proofs.YtnginfangeikpaaGreatDoor
