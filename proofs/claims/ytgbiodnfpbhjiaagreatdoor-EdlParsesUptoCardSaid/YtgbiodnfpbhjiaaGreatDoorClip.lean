/-
  Contracts of the tape of choices: Next; a caption; lists of captions.
  Conditions: the tape's numbers lie in memory.
-/
import Derived.Test.YtgbiodnfpbhjiaaGreatDoorWalkBd
import Derived.Test.YtgbiodnfpbhjiaaGreatDoorKit
import Derived.Test.YtgbiodnfpbhjiaaGreatDoorMathCa
import Derived.Test.YtgbiodnfpbhjiaaGreatDoorMem
import Derived.Deep.WholeRow
import Derived.Shelf.SlicesQ.Load
import Derived.Laws.CopyOwn
import Derived.Great.BuildSlice
namespace Go.Proofs.YtgbiodnfpbhjiaaGreatDoor
open Go.RowKit Go.Lib
set_option linter.unusedSimpArgs false
set_option linter.unusedVariables false
structure Tape (W:World) (T:Nat) (a:Option Addr) (cap:Nat) (xs:List Int) (k:Nat):Prop where
 cel:Cel W T [.slice a xs.length cap,.int .i64 k]
 rd:Rd W (.slice a xs.length cap) xs.length 1 (xs.map (Value.int .i64))
 ne:xs.length=0∨(Value.slice a xs.length cap).ownBlock≠some T
 ok:∀ x∈xs,-9223372036854775808≤x∧x≤9223372036854775807
 n:xs.length≤140737488355328
theorem Tape.grown {W w:World} {T:Nat} {a:Option Addr} {cap:Nat} {xs:List Int} {k:Nat} {row:Option Nat} (hg:W.grownBy w row) (h1:row≠some T) (h2:row=none∨(Value.slice a xs.length cap).ownBlock≠row) (h:Tape W T a cap xs k):Tape w T a cap xs k:=
 ⟨h.cel.grown hg h1,h.rd.grown hg (by rcases h2 with h2 | h2;exact .inr (.inr (.inl h2));exact .inr (.inl h2)),h.ne,h.ok,h.n⟩
theorem Tape.gr {W w:World} {T:Nat} {a:Option Addr} {cap:Nat} {xs:List Int} {k:Nat} (hg:Gr W w) (h:Tape W T a cap xs k):Tape w T a cap xs k:=h.grown hg.by0 (fun h=>by cases h) (.inl rfl)
theorem tape_mod (v n:Int) (h1:1≤n) (h2:n≤2147483647):0≤(wrap64 (v.tmod n+n)).tmod n∧(wrap64 (v.tmod n+n)).tmod n<n:=by
 have a1:=Int.lt_tmod_of_pos v (show 0<n by omega)
 have a2:=Int.tmod_lt_of_pos v (show 0<n by omega)
 have:wrap64 (v.tmod n+n)=v.tmod n+n:=by unfold wrap64;omega
 rw [this]
 exact⟨Int.tmod_nonneg _ (by omega),Int.tmod_lt_of_pos _ (by omega)⟩
theorem Tape.step {W w:World} {T:Nat} {a:Option Addr} {cap:Nat} {xs:List Int} {k:Nat} (hg:Gr W w) (h:Tape W T a cap xs k) :
  W.grownBy (w.setCell ⟨T,1,none⟩ (.int .i64 (k+1))) (some T)∧Tape (w.setCell ⟨T,1,none⟩ (.int .i64 (k+1))) T a cap xs (k+1):=by
 have h2:=h.gr hg
 refine⟨⟨hg.os,hg.tape,hg.output,by simp [World.setCell];exact hg.size,fun j hj hne=>?_⟩,⟨(h2.cel.set (k:=1) (by simp) (.int .i64 (k+1))),h2.rd.grown (grown_setCell w _ _) (h2.ne.elim .inl (fun h=>.inr (.inl h))),h2.ne,h2.ok,h2.n⟩⟩
 rw [Below.heap_setCell _ _ _ j (fun e=>hne (by rw [e]))]
 exact hg.block j hj
structure TapeArg (w:World) (a:Option Addr) (cap:Nat) (xs:List Int):Prop where
 rd:Rd w (.slice a xs.length cap) xs.length 1 (xs.map (Value.int .i64))
 ok:∀ x∈xs,-9223372036854775808≤x∧x≤9223372036854775807
 n:xs.length≤140737488355328
theorem TapeArg.gr {w w':World} {a:Option Addr} {cap:Nat} {xs:List Int} (hg:Gr w w') (h:TapeArg w a cap xs):TapeArg w' a cap xs:=⟨h.rd.gr hg,h.ok,h.n⟩
theorem TapeArg.box {w:World} {a:Option Addr} {cap:Nat} {xs:List Int} (h:TapeArg w a cap xs) (t:TypeId):Tape (w.alloc (.cells #[.slice a xs.length cap,.int .i64 0] t)) w.heap.size a cap xs 0:=by
 refine⟨Cel.new w #[.slice a xs.length cap,.int .i64 0] t,h.rd.gr ((Gr.refl w).alloc _),?_,h.ok,h.n⟩
 obtain⟨_,a',cap',e,h2 | ⟨b,o,rfl,hb,_⟩⟩:=h.rd
 ·exact .inl h2.1
 ·injection e with e1 e2 e3
  subst e1
  refine .inr (fun h=>?_)
  have:b=w.heap.size:=by simpa [Value.ownBlock] using h
  omega
set_option maxHeartbeats 2000000 in
theorem next_any (T:Nat) (a:Option Addr) (cap:Nat) (xs:List Int) (k:Nat) (n:Int) (w:World) (hT:Tape w T a cap xs k) (hk:k≤1000000) (h1:1≤n) (h2:n≤2147483647) :
  Calls Tryz.prog 33 #[.pointer (some ⟨T,0,none⟩),.int .i64 n] w fun e w'=>∃ r:Int,e=.returned (.int .i64 r)∧0≤r∧r<n∧w.grownBy w' (some T)∧Tape w' T a cap xs (k+1):=by
 have hT':=Lib.hid hT
 obtain⟨hx,c0,c1,f0,f1⟩:=hT.cel.two
 have hn:=hT.n
 have hrd:=hT.rd
 have hok:=Lib.hid hT.ok
 clear hT
 have q0:decide (n<1)=false:=decide_eq_false (by omega)
 by_cases g:k<xs.length
 ·have q1:decide (k<xs.length)=true:=decide_eq_true g
  obtain⟨b,o,cap',e1,hb,hc⟩:=hrd.addr (by omega)
  injection e1 with e1 e2 e3
  subst e1
  subst e3
  have hc:=hc k (.int .i64 xs[k]) (by simp [g])
  have hxk:=hok.out _ (List.getElem_mem g)
  generalize xs[k]=v at hc hxk
  clear hrd
  go_enter Tryz.func33,Tryz.ntmps33
  go_wp2
  refine wp_region_gr (by kernel_rfl) (by kernel_rfl) (fun hq1 hq2=>?_)
  repeat (first | go_big_quiet_skip | (go_big_quiet_want;go_big_quiet_op;first | go_big_quiet_on | (apply Exists.intro;refine⟨fun _=>?_,?_⟩;(· (fail));go_big_quiet_on)))
  refine wpQuiet_nil ?_
  clear hq1 hq2
  rintro w1 ⟨⟨_,hg1⟩,rfl⟩
  obtain⟨hc1,hf1⟩:=hg1.cells
  have hz1:=hg1.size
  (try simp at hz1);(try have hl1_0_0:w.heap.size<w1.heap.size:=by omega);(try have hm1_0_0:w.heap.size≤w1.heap.size:=by omega);(try have hl1_0_1:w.heap.size+1<w1.heap.size:=by omega);(try have hl1_0_2:w.heap.size+2<w1.heap.size:=by omega)
  go_wp2
  have d0:=(hc1 T _ hx).trans c0
  have d1:=(hc1 T _ hx).trans c1
  have dc:=(hc1 b _ hb).trans hc
  have hx1:T<w1.heap.size:=Nat.lt_of_lt_of_le hx hg1.size
  have hb1:b<w1.heap.size:=Nat.lt_of_lt_of_le hb hg1.size
  clear hc1 hf1
  refine wp_region_gr (by kernel_rfl) (by kernel_rfl) (fun hq1 hq2=>?_)
  repeat (first | go_big_quiet_skip | (go_big_quiet_want;go_big_quiet_op;first | go_big_quiet_on | (apply Exists.intro;refine⟨fun _=>?_,?_⟩;(· (fail));go_big_quiet_on)))
  refine wpQuiet_nil ?_
  clear hq1 hq2
  rintro w2 ⟨⟨_,hg2⟩,rfl⟩
  obtain⟨hc2,hf2⟩:=hg2.cells
  have hz2:=hg2.size
  (try simp at hz2);(try have hl2_0_0:w.heap.size<w2.heap.size:=by omega);(try have hm2_0_0:w.heap.size≤w2.heap.size:=by omega);(try have hl2_0_1:w.heap.size+1<w2.heap.size:=by omega);(try have hl2_0_2:w.heap.size+2<w2.heap.size:=by omega);(try have hl2_1_0:w1.heap.size<w2.heap.size:=by omega);(try have hm2_1_0:w1.heap.size≤w2.heap.size:=by omega);(try have hl2_1_1:w1.heap.size+1<w2.heap.size:=by omega);(try have hl2_1_2:w1.heap.size+2<w2.heap.size:=by omega)
  have k0:=(hc2 T _ hx1).trans d0
  have k1:=(hc2 T _ hx1).trans d1
  have hg12:=hg1.trans hg2
  have kf:w2.frozen? ⟨T,1,none⟩=false:=((hg1.trans hg2).cells.2 T _ hx).trans f1
  clear hc2 hf2
  have hb2:=tape_mod v n h1 h2
  go_wp2
  go_ret
  have hs:=hT'.out.step hg12
  exact⟨_,rfl,hb2.1,hb2.2,hs.1,hs.2⟩
 ·have q1:decide (k<xs.length)=false:=decide_eq_false (by omega)
  obtain⟨v,hv⟩:∃ v:Int,(k:Int) * 7+3=v:=⟨_,rfl⟩
  clear hrd
  go_enter Tryz.func33,Tryz.ntmps33
  go_wp2
  refine wp_region_gr (by kernel_rfl) (by kernel_rfl) (fun hq1 hq2=>?_)
  repeat (first | go_big_quiet_skip | (go_big_quiet_want;go_big_quiet_op;first | go_big_quiet_on | (apply Exists.intro;refine⟨fun _=>?_,?_⟩;(· (fail));go_big_quiet_on)))
  refine wpQuiet_nil ?_
  clear hq1 hq2
  rintro w1 ⟨⟨_,hg1⟩,rfl⟩
  obtain⟨hc1,hf1⟩:=hg1.cells
  have hz1:=hg1.size
  (try simp at hz1);(try have hl1_0_0:w.heap.size<w1.heap.size:=by omega);(try have hm1_0_0:w.heap.size≤w1.heap.size:=by omega);(try have hl1_0_1:w.heap.size+1<w1.heap.size:=by omega);(try have hl1_0_2:w.heap.size+2<w1.heap.size:=by omega)
  have d0:=(hc1 T _ hx).trans c0
  have d1:=(hc1 T _ hx).trans c1
  have kf:w1.frozen? ⟨T,1,none⟩=false:=(hg1.cells.2 T _ hx).trans f1
  have hx1:T<w1.heap.size:=Nat.lt_of_lt_of_le hx hg1.size
  clear hc1 hf1
  have hb2:=tape_mod v n h1 h2
  have ev:v.tmod n=v % n:=Int.tmod_eq_emod_of_nonneg (by omega)
  rw [ev] at hb2
  go_wp2
  go_ret
  have hs:=hT'.out.step hg1
  exact⟨_,rfl,hb2.1,hb2.2,hs.1,hs.2⟩
def ByT (W:World) (T:Nat) (w:World):Prop:=W.grownBy w (some T)
theorem ByT.refl (W:World) (T:Nat):ByT W T W:=grownBy_refl _ _
theorem ByT.step {W w w':World} {T:Nat} {row:Option Nat} (h:ByT W T w) (hg:w.grownBy w' row) (hr:∀ k,row=some k→k=T∨W.heap.size≤k):ByT W T w':=by
 refine⟨hg.os.trans h.os,hg.tape.trans h.tape,hg.output.trans h.output,Nat.le_trans h.size hg.size,fun k hk hne=>?_⟩
 rw [hg.block k (Nat.lt_of_lt_of_le hk h.size) (fun e=>by
  rcases hr k e.symm with h1 | h1
  ·exact hne (by rw [h1])
  ·omega)]
 exact h.block k hk hne
theorem ByT.gr {W w w':World} {T:Nat} (h:ByT W T w) (hg:Gr w w'):ByT W T w':=h.step hg.by0 (fun k hk=>by cases hk)
theorem ByT.set {W w:World} {T:Nat} (h:ByT W T w) {p:Addr} (hp:W.heap.size≤p.block) (u:Value):ByT W T (w.setCell p u):=
 h.step (grown_setCell w p u) (fun k hk=>by injection hk with hk;subst hk;exact .inr hp)
theorem ByT.size {W w:World} {T:Nat} (h:ByT W T w):W.heap.size≤w.heap.size:=World.grownBy.size h
theorem Tape.later {W0 W w:World} {T:Nat} {a:Option Addr} {cap:Nat} {xs:List Int} {k k0:Nat} {row:Option Nat} (h0:Tape W0 T a cap xs k0) (hg:W.grownBy w row) (h1:row≠some T) (hr:∀ k,row=some k→W0.heap.size≤k) (h:Tape W T a cap xs k):Tape w T a cap xs k:=by
 refine⟨h.cel.grown hg h1,h.rd.grown hg ?_,h.ne,h.ok,h.n⟩
 obtain⟨_,a',cap',e,h2 | ⟨b,o,rfl,hb,_⟩⟩:=h0.rd
 ·exact .inl h2.1
 ·injection e with e1 e2 e3
  subst e1
  refine .inr (.inl fun e=>?_)
  have:=hr b (by rw [← e];rfl)
  omega
theorem grown_trans {a b c:World} {row:Option Nat} (h:a.grownBy b row) (g:b.grownBy c row):a.grownBy c row:=
 ⟨g.os.trans h.os,g.tape.trans h.tape,g.output.trans h.output,Nat.le_trans h.size g.size,fun k hk hne=>(g.block k (Nat.lt_of_lt_of_le hk h.size) hne).trans (h.block k hk hne)⟩
theorem CuesO.keep {base:Nat} {e:TypeId} {W w:World} {v:Value} {cs:List Cu} {T:Nat} (h:CuesO base e W v cs) (hg:W.grownBy w (some T)) (hT:T<base) (hl:∀ c∈cs,c.lv.ownBlock≠some T):CuesO base e w v cs:=by
 refine⟨h.own.kept hg (.inr (fun h1=>by have:=own_ge h.own _ h1;omega)),fun c hc=>⟨Rd.grown hg (.inr (.inl (hl c hc))) (h.lines c hc).1,fun k hk=>?_⟩⟩
 rcases (h.lines c hc).2 k hk with h1 | ⟨c2,t2,f2,h2,hne⟩
 ·exact .inl h1
 ·refine .inr ⟨c2,t2,f2,?_,hne⟩
  rw [hg.block k (Array.getElem?_eq_some_iff.1 h2).1 (fun e=>hl c hc (by rw [hk];exact e))]
  exact h2
end Go.Proofs.YtgbiodnfpbhjiaaGreatDoor

namespace Go.Proofs.YtgbiodnfpbhjiaaGreatDoor
open Go.RowKit
set_option linter.unusedVariables false
theorem filter_set {l:List Bool} {j:Nat} (h:l[j]?=some false):((l.set j true).filter (fun b=>!b)).length+1=(l.filter (fun b=>!b)).length:=by
 induction l generalizing j with
 | nil=>simp at h
 | cons b l ih=>
  cases j with
  | zero=>
   simp at h
   subst h
   simp
  | succ j=>
   have:=ih (j:=j) (by simpa using h)
   cases b <;> simp at this ⊢ <;> omega
theorem getD_listed {listed:Array Bool} {i j:Nat} {d:Bool} (hj:listed.getD j true=false):(listed.setIfInBounds j true).getD i d=if i=j then true else listed.getD i d:=by
 have hlt:j<listed.size:=by
  simp only [Array.getD] at hj
  split at hj
  ·assumption
  ·cases hj
 by_cases h:i=j
 ·subst h
  simp [Array.getD,hlt]
 ·rw [if_neg h]
  exact getD_set_ne d (fun e=>h e.symm)
section
variable {P:Program} {ops:Array Oper} {md:Region.Mode} {Q:Exit→Act→World→Prop}
theorem wpAny_inv (I:Array Bool→Act→World→Prop)
  (hstep:∀ (j:Nat) (oj:Oper),ops[j]?=some oj→∀ listed a w,I listed a w→listed.getD j true=false→(∀ e∈oj.after,Region.binds md e=true→listed.getD e.on false=true) →
   ∀ R:Act→World→Prop,(∀ a' w',I (listed.setIfInBounds j true) a' w'→R a' w')→wpList P ops (only R) [oj] a w)
  (hend:∀ listed a w,I listed a w→Region.ready md ops listed=[]→Q .normal a w) :
  ∀ (f:Nat) (listed:Array Bool) (a:Act) (w:World),I listed a w→(listed.toList.filter (fun b=>!b)).length≤f→wpAny P md ops Q f listed a w:=by
 have hlt:∀ (listed:Array Bool) (j:Nat),listed.getD j true=false→listed.toList[j]?=some false:=fun listed j hj=>by
  simp only [Array.getD] at hj
  split at hj
  ·rename_i h
   rw [Array.getElem?_toList,Array.getElem?_eq_getElem h]
   exact congrArg some hj
  ·cases hj
 intro f
 induction f with
 | zero=>
  intro listed a w hI hc
  have hr:Region.ready md ops listed=[]:=by
   cases hr:Region.ready md ops listed with
   | nil=>rfl
   | cons j l=>
    have hj:j∈Region.ready md ops listed:=by rw [hr];exact List.mem_cons_self
    have:=filter_set (hlt listed j (mem_ready.1 hj).1)
    omega
  exact⟨hr,hend listed a w hI hr⟩
 | succ f ih=>
  intro listed a w hI hc
  refine⟨hend listed a w hI,fun j hj=>?_⟩
  obtain⟨h1,oj,h2,h3⟩:=mem_ready.1 hj
  have h4:=hstep j oj h2 listed a w hI h1 h3 (fun a' w'=>wpAny P md ops Q f (listed.setIfInBounds j true) a' w') (fun a' w' hI'=>ih _ a' w' hI' (by
   have:=filter_set (hlt listed j h1)
   rw [Array.toList_setIfInBounds]
   omega))
  have hw:wpOp P ops (only fun a' w'=>wpAny P md ops Q f (listed.setIfInBounds j true) a' w') j (wpList P ops (only fun a' w'=>wpAny P md ops Q f (listed.setIfInBounds j true) a' w') []) a w:=by
   unfold wpOp;simp only [h2];exact h4
  exact wpOp_only (fun a' w' h'=>h') hw
theorem wp_region_inv {id:Nat} {a:Act} {w:World} (I:Array Bool→Act→World→Prop) {l:List Oper} (n:Nat) (hl:l.length=n) (hm:P.follows .mixedOrders=true)
  (h0:I (Array.replicate n false) a w.drew)
  (hstep:∀ (j:Nat) (oj:Oper),l.toArray[j]?=some oj→∀ listed a w,I listed a w→listed.getD j true=false→(∀ e∈oj.after,Region.binds .any e=true→listed.getD e.on false=true) →
   ∀ R:Act→World→Prop,(∀ a' w',I (listed.setIfInBounds j true) a' w'→R a' w')→wpList P l.toArray (only R) [oj] a w)
  (hend:∀ listed a w,I listed a w→Region.ready .any l.toArray listed=[]→Q .normal a w):(Code.region id l.toArray true).wp P Q a w:=by
 subst hl
 refine wp_region_any hm (wpAny_inv I hstep hend _ _ _ _ ?_ ?_)
 ·simpa using h0
 ·simp
def puts (a:Act) (l:List (Nat × Value)):Act:=⟨l.foldl (fun t p=>t.setIfInBounds p.1 p.2) a.tmps,a.defers⟩
def backB (ops:Array Oper) (n:Nat):Bool:=(List.range n).all fun j=>match ops[j]? with | some o=>o.after.all fun e=>decide (e.on<j) | none=>false
theorem all_listed {listed:Array Bool} {n:Nat} (hB:backB ops n=true) (hr:Region.ready md ops listed=[]) (hs:listed.size=n):∀ j,j<n→listed.getD j false=true:=by
 intro j
 induction j using Nat.strongRecOn with
 | _ j ih=>
  intro hj
  have h1:=List.all_eq_true.1 hB j (List.mem_range.2 hj)
  cases ho:ops[j]? with
  | none=>rw [ho] at h1;cases h1
  | some o=>
   rw [ho] at h1
   by_cases hl:listed.getD j false=true
   ·exact hl
   ·exfalso
    have hl2:listed.getD j true=false:=by
     simp only [Array.getD] at hl ⊢
     split at hl
     ·rename_i h;rw [dif_pos h];simpa using hl
     ·omega
    have:j∈Region.ready md ops listed:=mem_ready.2 ⟨hl2,o,ho,fun e he _=>by
     have:=Array.all_eq_true'.1 h1 e he
     exact ih e.on (of_decide_eq_true this) (by have:=of_decide_eq_true this;omega)⟩
    rw [hr] at this
    cases this
theorem wp_region_slots {id:Nat} {a:Act} {w:World} (slots:List Nat) (J:List Value→(Nat→Bool)→World→Prop) {l:List Oper} (n:Nat) (xs0:List Value) (hl:l.length=n) (hB:backB l.toArray n=true) (hm:P.follows .mixedOrders=true)
  (h00:puts a (slots.zip xs0)=a) (h0:J xs0 (fun _=>false) w.drew)
  (hstep:∀ (j:Nat) (oj:Oper),j<n→l.toArray[j]?=some oj→∀ (L:Nat→Bool) xs w,J xs L w→L j=false→(∀ e∈oj.after,Region.binds .any e=true→L e.on=true) →
   ∀ R:Act→World→Prop,(∀ xs' w',J xs' (fun i=>if i=j then true else L i) w'→R (puts a (slots.zip xs')) w')→wpList P l.toArray (only R) [oj] (puts a (slots.zip xs)) w)
  (hend:∀ L xs w,J xs L w→(∀ j,j<n→L j=true)→Q .normal (puts a (slots.zip xs)) w):(Code.region id l.toArray true).wp P Q a w:=by
 refine wp_region_inv (fun listed b w=>listed.size=n∧∃ xs,b=puts a (slots.zip xs)∧J xs (fun i=>listed.getD i false) w) n hl hm ?_ ?_ ?_
 ·refine⟨by simp,xs0,h00.symm,?_⟩
  have:(fun i=>(Array.replicate n false).getD i false)=fun _=>false:=by
   funext i
   simp [Array.getD]
  rw [this]
  exact h0
 ·rintro j oj hoj listed b w ⟨hs,xs,rfl,hJ⟩ hj hdep R hR
  have hjn:j<n:=by
   have:=(Array.getElem?_eq_some_iff.1 hoj).1
   simpa [hl] using this
  refine hstep j oj hjn hoj (fun i=>listed.getD i false) xs w hJ ?_ hdep R (fun xs' w' hJ'=>hR _ _ ⟨by simp [hs],xs',rfl,?_⟩)
  ·simp only [Array.getD] at hj ⊢
   split at hj
   ·rename_i h;rw [dif_pos h];exact hj
   ·cases hj
  ·have:(fun i=>(listed.setIfInBounds j true).getD i false)=fun i=>if i=j then true else listed.getD i false:=by
    funext i
    exact getD_listed hj
   rw [this]
   exact hJ'
 ·rintro listed b w ⟨hs,xs,rfl,hJ⟩ hr
  exact hend _ xs w hJ (all_listed hB hr hs)
end
end Go.Proofs.YtgbiodnfpbhjiaaGreatDoor

namespace Go.Proofs.YtgbiodnfpbhjiaaGreatDoor
open Go.RowKit Go.Lib
set_option linter.unusedVariables false
structure CM where
 c:Cl
 cv:Value
def Sr.cells (s:Sr):List Value:=[.int .i64 s.k,.string s.nm,.int .i64 s.an,.int .i64 s.ad,.int .i64 s.sn,.int .i64 s.sd,.bool s.sm]
def Sr.val (s:Sr):Value:=.agg #[.int .i64 s.k,.string s.nm,.int .i64 s.an,.int .i64 s.ad,.int .i64 s.sn,.int .i64 s.sd,.bool s.sm]
def CM.cells (m:CM):List Value:=[.int .i64 m.c.len,.int .i64 m.c.kind,.int .i64 m.c.a.k,.string m.c.a.nm,.int .i64 m.c.a.an,.int .i64 m.c.a.ad,.int .i64 m.c.a.sn,.int .i64 m.c.a.sd,.bool m.c.a.sm,
 .int .i64 m.c.b.k,.string m.c.b.nm,.int .i64 m.c.b.an,.int .i64 m.c.b.ad,.int .i64 m.c.b.sn,.int .i64 m.c.b.sd,.bool m.c.b.sm,.int .i64 m.c.off,.int .i64 m.c.tot,.int .i64 m.c.par,.string m.c.tx,.int .i64 m.c.gain,m.cv]
def CM.val (m:CM):Value:=.agg m.cells.toArray
theorem CM.len22 (m:CM):m.cells.length=22:=rfl
def intsV (xs:List Int):List Value:=xs.map fun x=>Value.int .i64 x
def ChR (w:World) (m:CM):Prop:=Rd w m.cv m.c.ch.length 1 (intsV m.c.ch)
theorem ChR.gr {w w':World} {m:CM} (hg:Gr w w') (h:ChR w m):ChR w' m:=Rd.gr hg h
theorem ChR.slice {w:World} {m:CM} (h:ChR w m):∃ a cap,m.cv=.slice a m.c.ch.length cap:=by
 obtain⟨_,a,cap,h1,_⟩:=h
 exact⟨a,cap,h1⟩
theorem ChR.one {w:World} {m:CM} (h:ChR w m):∀ v∈m.cells,v.oneCell'=true:=by
 obtain⟨a,cap,hv⟩:=h.slice
 intro v hm
 unfold CM.cells at hm
 simp only [List.mem_cons,List.not_mem_nil,or_false] at hm
 rcases hm with rfl | rfl | rfl | rfl | rfl | rfl | rfl | rfl | rfl | rfl | rfl | rfl | rfl | rfl | rfl | rfl | rfl | rfl | rfl | rfl | rfl | rfl <;> first | rfl | (rw [hv];rfl)
def cflat (cs:List CM):List Value:=cs.flatMap CM.cells
theorem cflat_length (cs:List CM):(cflat cs).length=cs.length * 22:=by
 induction cs with
 | nil=>rfl
 | cons c cs ih=>
  rw [show cflat (c :: cs)=c.cells ++ cflat cs from rfl,List.length_append,ih,CM.len22]
  simp
  omega
theorem cflat_append (a b:List CM):cflat (a ++ b)=cflat a ++ cflat b:=by unfold cflat;rw [List.flatMap_append]
theorem cflat_at (cs:List CM) (i:Nat) (hi:i<cs.length) (j:Nat) (hj:j<22):(cflat cs)[i * 22+j]?=cs[i].cells[j]?:=by
 induction cs generalizing i with
 | nil=>simp at hi
 | cons c cs ih=>
  rw [show cflat (c :: cs)=c.cells ++ cflat cs from rfl]
  have hl:c.cells.length=22:=rfl
  cases i with
  | zero=>
   rw [List.getElem?_append_left (by omega)]
   simp
  | succ i=>
   have h:=ih i (by simpa using hi)
   rw [List.getElem?_append_right (by omega),hl,show (i+1) * 22+j - 22=i * 22+j by omega,h]
   simp
structure TrR (w:World) (v:Value) (cs:List CM):Prop where
 rd:Rd w v cs.length 22 (cflat cs)
 ch:∀ c∈cs,ChR w c
theorem TrR.gr {w w':World} {v:Value} {cs:List CM} (hg:Gr w w') (h:TrR w v cs):TrR w' v cs:=⟨h.rd.gr hg,fun c hc=>(h.ch c hc).gr hg⟩
theorem TrR.nil (w:World):TrR w (.slice none 0 0) []:=⟨Rd.nil w 22,fun c hc=>by cases hc⟩
theorem TrR.shape {w:World} {v:Value} {cs:List CM} (h:TrR w v cs):∃ a cap,v=.slice a cs.length cap ∧
  (cs.length=0∨∃ b o,a=some ⟨b,o,none⟩∧b<w.heap.size∧∀ (i:Nat) (hi:i<cs.length) (j:Nat) (u:Value),cs[i].cells[j]?=some u→w.cell? ⟨b,o+i * 22+j,none⟩=some u):=by
 obtain⟨⟨_,a,cap,rfl,h0 | ⟨b,o,rfl,hb,hc⟩⟩,_⟩:=h
 ·exact⟨a,cap,rfl,.inl h0.1⟩
 ·refine⟨_,cap,rfl,.inr ⟨b,o,rfl,hb,fun i hi j u hu=>?_⟩⟩
  have hj:j<22:=(List.getElem?_eq_some_iff.1 hu).1
  rw [Nat.add_assoc]
  exact hc _ _ (by rw [cflat_at cs i hi j hj];exact hu)
theorem ld_row {P:Program} {w:World} {b q k:Nat} {l:List Value} (hk:l.length=k) (h:∀ (j:Nat) (u:Value),l[j]?=some u→w.cell? ⟨b,q+j,none⟩=some u) :
  Sem.run P (loadCellsFrom ⟨b,q,none⟩ 0 k #[]) w=.ok l.toArray w:=
 run_loadCellsFrom_list P w ⟨b,q,none⟩ l k hk fun j v hv=>by
  have:=h j v hv
  simpa [Addr.add_lit] using this
theorem ld_cel {P:Program} {w:World} {g k:Nat} {l:List Value} (hk:l.length=k) (h:Cel w g l) :
  Sem.run P (loadCellsFrom ⟨g,0,none⟩ 0 k #[]) w=.ok l.toArray w:=
 ld_row hk fun j u hu=>by rw [Nat.zero_add];exact (h.2 j u hu).1
theorem st_new {P:Program} (w:World) (t:TypeId) (c:Array Value) (l:List Value) (hi:(P.info? t).map (·.size)=some l.length) (ho:c.size=l.length) (h1:∀ v∈l,v.oneCell'=true) :
  (storeCells ⟨w.heap.size,0,none⟩ l 0).run P (w.alloc (.cells c t))=.ok () (w.alloc (.cells l.toArray t)):=by
 have:=run_storeCells_new (P:=P) w t c l.toArray (by simpa using hi) (by simpa using ho) (by simpa using h1)
 simpa using this
theorem st_blk {P:Program} {w:World} {g:Nat} {t:TypeId} {vs l:List Value} (h:Blk w g t vs) (hl:l.length=vs.length) (h1:∀ v∈l,v.oneCell'=true) :
  (storeCells ⟨g,0,none⟩ l 0).run P w=.ok () (w.setRow g l.toArray):=by
 have:=run_storeCells_from (P:=P) g t l 0 vs.toArray w h (by simp [hl]) h1
 simpa using this
theorem Blk.setRow {w:World} {g:Nat} {t:TypeId} {vs:List Value} (h:Blk w g t vs) (l:List Value):Blk (w.setRow g l.toArray) g t l:=setRow_heap w g _ _ t _ h
theorem Blk.setRow_other {w:World} {g b:Nat} {t:TypeId} {vs:List Value} (h:Blk w b t vs) (hb:b≠g) (l:Array Value):Blk (w.setRow g l) b t vs:=by
 unfold Blk
 rw [Go.setRow_other w g b l hb]
 exact h
theorem Gr.setRow {a w:World} (h:Gr a w) {g:Nat} (hg:a.heap.size≤g) (l:Array Value):Gr a (w.setRow g l):=below_setRow h hg l
theorem Blk.other {w:World} {b:Nat} {T:TypeId} {vs:List Value} (h:Blk w b T vs) {p:Addr} (hp:p.block≠b) (u:Value):Blk (w.setCell p u) b T vs:=by
 unfold Blk
 rw [Below.heap_setCell _ _ _ b (fun e=>hp e.symm)]
 exact h
theorem ld_blk {P:Program} {w:World} {g k:Nat} {t:TypeId} {l:List Value} (hk:l.length=k) (h:Blk w g t l) :
  Sem.run P (loadCellsFrom ⟨g,0,none⟩ 0 k #[]) w=.ok l.toArray w:=ld_cel hk h.cel
theorem grown_setRow (w:World) (g:Nat) (l:Array Value):w.grownBy (w.setRow g l) (some g):=
 ⟨rfl,rfl,rfl,by simp,fun k _ hk=>Go.setRow_other w g k l (fun e=>hk (by rw [e]))⟩
theorem Far.keep {base g:Nat} {e:TypeId} {W w:World} {v:Value} (h:Far base e W v) (hg:W.grownBy w (some g)) (hne:v.ownBlock≠some g):Far base e w v:=by
 intro k hk
 rcases h k hk with h1 | ⟨c2,t2,f2,h2,h3⟩
 ·exact .inl h1
 ·refine .inr ⟨c2,t2,f2,?_,h3⟩
  rw [hg.block k (Array.getElem?_eq_some_iff.1 h2).1 (fun e=>hne (by rw [hk,e]))]
  exact h2
theorem Far.up {b:Nat} {e:TypeId} {W:World} {lv:Value} (h:Far 0 e W lv):Far b e W lv:=fun k hk=>(h k hk).elim (fun h=>by omega) .inr
structure TrO (base:Nat) (W:World) (v:Value) (cs:List CM):Prop where
 own:W.ownsRow base 81 22 v cs.length (cflat cs)
 ch:∀ c∈cs,ChR W c∧Far 0 81 W c.cv
theorem TrO.nil (base:Nat) (W:World):TrO base W (.slice none 0 0) []:=⟨World.ownsRow_nil _ _ _ _,fun c hc=>by cases hc⟩
theorem TrO.read {base:Nat} {W:World} {v:Value} {cs:List CM} (h:TrO base W v cs):TrR W v cs:=⟨Rd.own h.own,fun c hc=>(h.ch c hc).1⟩
theorem TrO.gr {base:Nat} {W w:World} {v:Value} {cs:List CM} (hg:Gr W w) (h:TrO base W v cs):TrO base w v cs:=
 ⟨own_gr hg h.own,fun c hc=>⟨(h.ch c hc).1.gr hg,(h.ch c hc).2.gr hg⟩⟩
theorem TrO.less {b1 b2:Nat} {W:World} {v:Value} {cs:List CM} (h:TrO b2 W v cs) (hb:b1≤b2):TrO b1 W v cs:=by
 refine⟨⟨h.own.1,?_⟩,h.ch⟩
 rcases h.own.2 with h1 | ⟨g,cap,cur,e,hg,r⟩
 ·exact .inl h1
 ·exact .inr ⟨g,cap,cur,e,by omega,r⟩
theorem far_keep {base:Nat} {W w:World} {v:Value} {n size:Nat} {xs:List Value} {c:CM} (ho:W.ownsRow base 81 size v n xs) (hg:W.grownBy w v.ownBlock) (h1:ChR W c) (h2:Far 0 81 W c.cv):ChR w c∧Far 0 81 w c.cv:=by
 have hne:=(h2.up (b:=base)).ne ho
 refine⟨Rd.grown hg ?_ h1,fun k hk=>?_⟩
 ·rcases hne with h3 | h3
  ·exact .inr (.inl h3)
  ·exact .inr (.inr (.inr h3))
 ·rcases h2 k hk with h3 | ⟨c2,t2,f2,h3,h4⟩
  ·omega
  ·refine .inr ⟨c2,t2,f2,?_,h4⟩
   rw [hg.block k (Array.getElem?_eq_some_iff.1 h3).1 (by
    rcases hne with h5 | h5
    ·rw [← hk];exact h5
    ·rw [hk] at h5;cases h5)]
   exact h3
theorem TrO.app {base:Nat} {W w:World} {v v':Value} {cs:List CM} (c:CM) (h:TrO base W v cs) (hs:ChR W c) (hf:Far 0 81 W c.cv)
  (ho:w.ownsRow base 81 22 v' (cs.length+1) (cflat cs ++ c.cells)) (hg:W.grownBy w v.ownBlock):TrO base w v' (cs ++ [c]):=by
 refine⟨?_,fun d hd=>?_⟩
 ·rw [cflat_append,List.length_append,show cflat [c]=c.cells by simp [cflat]]
  exact ho
 ·rcases List.mem_append.1 hd with h1 | h1
  ·exact far_keep h.own hg (h.ch d h1).1 (h.ch d h1).2
  ·rw [List.mem_singleton.1 h1];exact far_keep h.own hg hs hf
theorem cflat_set:∀ (cs:List CM) (i:Nat) (hi:i<cs.length) (j:Nat) (u:Value) (m':CM),j<22→m'.cells=cs[i].cells.set j u→(cflat cs).set (i * 22+j) u=cflat (cs.set i m')
 | x :: cs,0,hi,j,u,m',hj,hc=>by
  have hl:x.cells.length=22:=rfl
  rw [show cflat (x :: cs)=x.cells ++ cflat cs from rfl,List.set_cons_zero,show cflat (m' :: cs)=m'.cells ++ cflat cs from rfl,List.set_append_left _ _ (by omega),hc]
  simp
 | x :: cs,i+1,hi,j,u,m',hj,hc=>by
  have hl:x.cells.length=22:=rfl
  rw [show cflat (x :: cs)=x.cells ++ cflat cs from rfl,List.set_cons_succ,show cflat (x :: cs.set i m')=x.cells ++ cflat (cs.set i m') from rfl,List.set_append_right _ _ (by omega),← cflat_set cs i (by simpa using hi) j u m' hj hc]
  rw [show (i+1) * 22+j - x.cells.length=i * 22+j by omega]
theorem TrO.set {base g cap:Nat} {w:World} {cs:List CM} (h:TrO base w (.slice (some ⟨g,0,none⟩) cs.length cap) cs) (i:Nat) (hi:i<cs.length) (j:Nat) (hj:j<22) (u:Value) (m':CM) (hc:m'.cells=cs[i].cells.set j u) (hv:m'.cv=cs[i].cv) (hch:m'.c.ch=cs[i].c.ch) :
  TrO base (w.setCell ⟨g,i * 22+j,none⟩ u) (.slice (some ⟨g,0,none⟩) (cs.set i m').length cap) (cs.set i m'):=by
 obtain⟨h1,h2⟩:=h.own.stored (i * 22+j) u
 rw [cflat_set cs i hi j u m' hj hc] at h1
 refine⟨by rw [List.length_set];exact h1,fun c hcm=>?_⟩
 have hold:∀ d∈cs,ChR (w.setCell ⟨g,i * 22+j,none⟩ u) d∧Far 0 81 (w.setCell ⟨g,i * 22+j,none⟩ u) d.cv:=fun d hd=>far_keep h.own h2 (h.ch d hd).1 (h.ch d hd).2
 rcases List.mem_or_eq_of_mem_set hcm with h3 | h3
 ·exact hold c h3
 ·obtain⟨q1,q2⟩:=hold _ (List.getElem_mem hi)
  rw [h3]
  unfold ChR at *
  rw [hv,hch]
  exact⟨q1,q2⟩
theorem bs_one {P:Program} {t e:TypeId} {n:Nat} (hu:P.underlying t=some (.slice e)) (hi:(P.info? e).map (fun i=>(i.zero.map fun z=>z.cells.size,i.size))=some (some n,n)) (h0:0<n) (h9:n≤16777216) (l:List Value) (hl:l.length=n) (w:World) :
  (Instr.buildSlice t 1 #[(0,.agg l.toArray)]).run P w=.ok (.slice (some ⟨w.heap.size,0,none⟩) 1 1) (w.alloc (.cells l.toArray e)):=by
 cases hq:P.info? e with
 | none=>simp [hq] at hi
 | some ie=>
  cases hz:ie.zero with
  | none=>simp [hq,hz] at hi
  | some z=>
   simp [hq,hz] at hi
   refine run_buildSlice w t e 1 _ _ ie z hu hq hz (by rw [hi.2];omega) (by rw [hi.2];omega) ?_
   have:=Great.fill_whole h0 [Value.agg l.toArray] ((Array.range (1 * ie.size)).map (z.cells[· % z.cells.size]!)) (fun v hv=>by rw [List.mem_singleton.1 hv];simpa [Value.cells] using hl) (by simp [hi.2])
   simpa [hi.2,Value.cells] using this
theorem wpList_bs1 {P:Program} {ops:Array Oper} {rest:List Oper} {o:Oper} {a:Act} {w:World} {Q:Exit→Act→World→Prop} (hg:o.guard=none) (t e:TypeId) (x:Operand) (ho:o.op=.buildSlice t 1 #[(0,x)]) (n:Nat)
  (hu:P.underlying t=some (.slice e)) (hi:(P.info? e).map (fun i=>(i.zero.map fun z=>z.cells.size,i.size))=some (some n,n)) (h0:0<n) (h9:n≤16777216) (l:List Value) (hl:l.length=n) (hx:a.eval x=.agg l.toArray)
  (h:wpList P ops Q rest (a.put o.dst (.slice (some ⟨w.heap.size,0,none⟩) 1 1)) (w.alloc (.cells l.toArray e))):wpList P ops Q (o :: rest) a w:=by
 cases hq:P.info? e with
 | none=>simp [hq] at hi
 | some ie=>
  cases hz:ie.zero with
  | none=>simp [hq,hz] at hi
  | some z=>
   simp [hq,hz] at hi
   refine wpList_buildSlice hg t e 1 _ ho _ ie z hu hq hz (by rw [hi.2];omega) (by rw [hi.2];omega) ?_ h
   have:=Great.fill_whole h0 [Value.agg l.toArray] ((Array.range (1 * ie.size)).map (z.cells[· % z.cells.size]!)) (fun v hv=>by rw [List.mem_singleton.1 hv];simpa [Value.cells] using hl) (by simp [hi.2])
   simpa [hi.2,Value.cells,hx] using this
end Go.Proofs.YtgbiodnfpbhjiaaGreatDoor
