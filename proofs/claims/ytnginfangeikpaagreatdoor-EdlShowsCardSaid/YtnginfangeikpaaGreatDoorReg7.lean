/-
  A law for regions that draw their order, by a statement that every operation keeps, in whatever order they come.
  Conditions: none.
-/
import Derived.Test.YtnginfangeikpaaGreatDoorKit
namespace Go.Proofs.YtnginfangeikpaaGreatDoor
open Go.RowKit
set_option linter.unusedVariables false
theorem filter_set {l:List Bool} {j:Nat} (h:l[j]?=some false):((l.set j true).filter (fun b=>!b)).length+1=(l.filter (fun b=>!b)).length:=by
 induction l generalizing j with
 | nil=>simp at h
 | cons b l ih=>
  cases j with
  | zero=>
   simp at h
   subst h
   simp
  | succ j=>
   have:=ih (j:=j) (by simpa using h)
   cases b <;> simp at this ⊢ <;> omega
theorem getD_listed {listed:Array Bool} {i j:Nat} {d:Bool} (hj:listed.getD j true=false):(listed.setIfInBounds j true).getD i d=if i=j then true else listed.getD i d:=by
 have hlt:j<listed.size:=by
  simp only [Array.getD] at hj
  split at hj
  ·assumption
  ·cases hj
 by_cases h:i=j
 ·subst h
  simp [Array.getD,hlt]
 ·rw [if_neg h]
  exact getD_set_ne d (fun e=>h e.symm)
section
variable {P:Program} {ops:Array Oper} {md:Region.Mode} {Q:Exit→Act→World→Prop}
theorem wpAny_inv (I:Array Bool→Act→World→Prop)
  (hstep:∀ (j:Nat) (oj:Oper),ops[j]?=some oj→∀ listed a w,I listed a w→listed.getD j true=false→(∀ e∈oj.after,Region.binds md e=true→listed.getD e.on false=true) →
   ∀ R:Act→World→Prop,(∀ a' w',I (listed.setIfInBounds j true) a' w'→R a' w')→wpList P ops (only R) [oj] a w)
  (hend:∀ listed a w,I listed a w→Region.ready md ops listed=[]→Q .normal a w) :
  ∀ (f:Nat) (listed:Array Bool) (a:Act) (w:World),I listed a w→(listed.toList.filter (fun b=>!b)).length≤f→wpAny P md ops Q f listed a w:=by
 have hlt:∀ (listed:Array Bool) (j:Nat),listed.getD j true=false→listed.toList[j]?=some false:=fun listed j hj=>by
  simp only [Array.getD] at hj
  split at hj
  ·rename_i h
   rw [Array.getElem?_toList,Array.getElem?_eq_getElem h]
   exact congrArg some hj
  ·cases hj
 intro f
 induction f with
 | zero=>
  intro listed a w hI hc
  have hr:Region.ready md ops listed=[]:=by
   cases hr:Region.ready md ops listed with
   | nil=>rfl
   | cons j l=>
    have hj:j∈Region.ready md ops listed:=by rw [hr];exact List.mem_cons_self
    have:=filter_set (hlt listed j (mem_ready.1 hj).1)
    omega
  exact⟨hr,hend listed a w hI hr⟩
 | succ f ih=>
  intro listed a w hI hc
  refine⟨hend listed a w hI,fun j hj=>?_⟩
  obtain⟨h1,oj,h2,h3⟩:=mem_ready.1 hj
  have h4:=hstep j oj h2 listed a w hI h1 h3 (fun a' w'=>wpAny P md ops Q f (listed.setIfInBounds j true) a' w') (fun a' w' hI'=>ih _ a' w' hI' (by
   have:=filter_set (hlt listed j h1)
   rw [Array.toList_setIfInBounds]
   omega))
  have hw:wpOp P ops (only fun a' w'=>wpAny P md ops Q f (listed.setIfInBounds j true) a' w') j (wpList P ops (only fun a' w'=>wpAny P md ops Q f (listed.setIfInBounds j true) a' w') []) a w:=by
   unfold wpOp;simp only [h2];exact h4
  exact wpOp_only (fun a' w' h'=>h') hw
theorem wp_region_inv {id:Nat} {a:Act} {w:World} (I:Array Bool→Act→World→Prop) {l:List Oper} (n:Nat) (hl:l.length=n) (hm:P.follows .mixedOrders=true)
  (h0:I (Array.replicate n false) a w.drew)
  (hstep:∀ (j:Nat) (oj:Oper),l.toArray[j]?=some oj→∀ listed a w,I listed a w→listed.getD j true=false→(∀ e∈oj.after,Region.binds .any e=true→listed.getD e.on false=true) →
   ∀ R:Act→World→Prop,(∀ a' w',I (listed.setIfInBounds j true) a' w'→R a' w')→wpList P l.toArray (only R) [oj] a w)
  (hend:∀ listed a w,I listed a w→Region.ready .any l.toArray listed=[]→Q .normal a w):(Code.region id l.toArray true).wp P Q a w:=by
 subst hl
 refine wp_region_any hm (wpAny_inv I hstep hend _ _ _ _ ?_ ?_)
 ·simpa using h0
 ·simp
def puts (a:Act) (l:List (Nat × Value)):Act:=⟨l.foldl (fun t p=>t.setIfInBounds p.1 p.2) a.tmps,a.defers⟩
def backB (ops:Array Oper) (n:Nat):Bool:=(List.range n).all fun j=>match ops[j]? with | some o=>o.after.all fun e=>decide (e.on<j) | none=>false
theorem all_listed {listed:Array Bool} {n:Nat} (hB:backB ops n=true) (hr:Region.ready md ops listed=[]) (hs:listed.size=n):∀ j,j<n→listed.getD j false=true:=by
 intro j
 induction j using Nat.strongRecOn with
 | _ j ih=>
  intro hj
  have h1:=List.all_eq_true.1 hB j (List.mem_range.2 hj)
  cases ho:ops[j]? with
  | none=>rw [ho] at h1;cases h1
  | some o=>
   rw [ho] at h1
   by_cases hl:listed.getD j false=true
   ·exact hl
   ·exfalso
    have hl2:listed.getD j true=false:=by
     simp only [Array.getD] at hl ⊢
     split at hl
     ·rename_i h;rw [dif_pos h];simpa using hl
     ·omega
    have:j∈Region.ready md ops listed:=mem_ready.2 ⟨hl2,o,ho,fun e he _=>by
     have:=Array.all_eq_true'.1 h1 e he
     exact ih e.on (of_decide_eq_true this) (by have:=of_decide_eq_true this;omega)⟩
    rw [hr] at this
    cases this
theorem wp_region_slots {id:Nat} {a:Act} {w:World} (slots:List Nat) (J:List Value→(Nat→Bool)→World→Prop) {l:List Oper} (n:Nat) (xs0:List Value) (hl:l.length=n) (hB:backB l.toArray n=true) (hm:P.follows .mixedOrders=true)
  (h00:puts a (slots.zip xs0)=a) (h0:J xs0 (fun _=>false) w.drew)
  (hstep:∀ (j:Nat) (oj:Oper),j<n→l.toArray[j]?=some oj→∀ (L:Nat→Bool) xs w,J xs L w→L j=false→(∀ e∈oj.after,Region.binds .any e=true→L e.on=true) →
   ∀ R:Act→World→Prop,(∀ xs' w',J xs' (fun i=>if i=j then true else L i) w'→R (puts a (slots.zip xs')) w')→wpList P l.toArray (only R) [oj] (puts a (slots.zip xs)) w)
  (hend:∀ L xs w,J xs L w→(∀ j,j<n→L j=true)→Q .normal (puts a (slots.zip xs)) w):(Code.region id l.toArray true).wp P Q a w:=by
 refine wp_region_inv (fun listed b w=>listed.size=n∧∃ xs,b=puts a (slots.zip xs)∧J xs (fun i=>listed.getD i false) w) n hl hm ?_ ?_ ?_
 ·refine⟨by simp,xs0,h00.symm,?_⟩
  have:(fun i=>(Array.replicate n false).getD i false)=fun _=>false:=by
   funext i
   simp [Array.getD]
  rw [this]
  exact h0
 ·rintro j oj hoj listed b w ⟨hs,xs,rfl,hJ⟩ hj hdep R hR
  have hjn:j<n:=by
   have:=(Array.getElem?_eq_some_iff.1 hoj).1
   simpa [hl] using this
  refine hstep j oj hjn hoj (fun i=>listed.getD i false) xs w hJ ?_ hdep R (fun xs' w' hJ'=>hR _ _ ⟨by simp [hs],xs',rfl,?_⟩)
  ·simp only [Array.getD] at hj ⊢
   split at hj
   ·rename_i h;rw [dif_pos h];exact hj
   ·cases hj
  ·have:(fun i=>(listed.setIfInBounds j true).getD i false)=fun i=>if i=j then true else listed.getD i false:=by
    funext i
    exact getD_listed hj
   rw [this]
   exact hJ'
 ·rintro listed b w ⟨hs,xs,rfl,hJ⟩ hr
  exact hend _ xs w hJ (all_listed hB hr hs)
end
end Go.Proofs.YtnginfangeikpaaGreatDoor
