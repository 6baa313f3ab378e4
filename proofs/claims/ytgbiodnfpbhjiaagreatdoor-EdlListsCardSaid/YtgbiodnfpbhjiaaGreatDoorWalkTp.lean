/-
  Contracts of the tape of choices: Next; a caption; lists of captions.
  Conditions: the tape's numbers lie in memory.
-/
import Derived.Test.YtgbiodnfpbhjiaaGreatDoorWalkCu
import Derived.Test.YtgbiodnfpbhjiaaGreatDoorKit
namespace Go.Proofs.YtgbiodnfpbhjiaaGreatDoor
open Go.RowKit Go.Lib
set_option linter.unusedSimpArgs false
set_option linter.unusedVariables false
structure Tape (W:World) (T:Nat) (a:Option Addr) (cap:Nat) (xs:List Int) (k:Nat):Prop where
 cel:Cel W T [.slice a xs.length cap,.int .i64 k]
 rd:Rd W (.slice a xs.length cap) xs.length 1 (xs.map (Value.int .i64))
 ne:xs.length=0∨(Value.slice a xs.length cap).ownBlock≠some T
 ok:∀ x∈xs,-9223372036854775808≤x∧x≤9223372036854775807
 n:xs.length≤140737488355328
theorem Tape.grown {W w:World} {T:Nat} {a:Option Addr} {cap:Nat} {xs:List Int} {k:Nat} {row:Option Nat} (hg:W.grownBy w row) (h1:row≠some T) (h2:row=none∨(Value.slice a xs.length cap).ownBlock≠row) (h:Tape W T a cap xs k):Tape w T a cap xs k:=
 ⟨h.cel.grown hg h1,h.rd.grown hg (by rcases h2 with h2 | h2;exact .inr (.inr (.inl h2));exact .inr (.inl h2)),h.ne,h.ok,h.n⟩
theorem Tape.gr {W w:World} {T:Nat} {a:Option Addr} {cap:Nat} {xs:List Int} {k:Nat} (hg:Gr W w) (h:Tape W T a cap xs k):Tape w T a cap xs k:=h.grown hg.by0 (fun h=>by cases h) (.inl rfl)
theorem tape_mod (v n:Int) (h1:1≤n) (h2:n≤2147483647):0≤(wrap64 (v.tmod n+n)).tmod n∧(wrap64 (v.tmod n+n)).tmod n<n:=by
 have a1:=Int.lt_tmod_of_pos v (show 0<n by omega)
 have a2:=Int.tmod_lt_of_pos v (show 0<n by omega)
 have:wrap64 (v.tmod n+n)=v.tmod n+n:=by unfold wrap64;omega
 rw [this]
 exact⟨Int.tmod_nonneg _ (by omega),Int.tmod_lt_of_pos _ (by omega)⟩
theorem Tape.step {W w:World} {T:Nat} {a:Option Addr} {cap:Nat} {xs:List Int} {k:Nat} (hg:Gr W w) (h:Tape W T a cap xs k) :
  W.grownBy (w.setCell ⟨T,1,none⟩ (.int .i64 (k+1))) (some T)∧Tape (w.setCell ⟨T,1,none⟩ (.int .i64 (k+1))) T a cap xs (k+1):=by
 have h2:=h.gr hg
 refine⟨⟨hg.os,hg.tape,hg.output,by simp [World.setCell];exact hg.size,fun j hj hne=>?_⟩,⟨(h2.cel.set (k:=1) (by simp) (.int .i64 (k+1))),h2.rd.grown (grown_setCell w _ _) (h2.ne.elim .inl (fun h=>.inr (.inl h))),h2.ne,h2.ok,h2.n⟩⟩
 rw [Below.heap_setCell _ _ _ j (fun e=>hne (by rw [e]))]
 exact hg.block j hj
structure TapeArg (w:World) (a:Option Addr) (cap:Nat) (xs:List Int):Prop where
 rd:Rd w (.slice a xs.length cap) xs.length 1 (xs.map (Value.int .i64))
 ok:∀ x∈xs,-9223372036854775808≤x∧x≤9223372036854775807
 n:xs.length≤140737488355328
theorem TapeArg.gr {w w':World} {a:Option Addr} {cap:Nat} {xs:List Int} (hg:Gr w w') (h:TapeArg w a cap xs):TapeArg w' a cap xs:=⟨h.rd.gr hg,h.ok,h.n⟩
theorem TapeArg.box {w:World} {a:Option Addr} {cap:Nat} {xs:List Int} (h:TapeArg w a cap xs) (t:TypeId):Tape (w.alloc (.cells #[.slice a xs.length cap,.int .i64 0] t)) w.heap.size a cap xs 0:=by
 refine⟨Cel.new w #[.slice a xs.length cap,.int .i64 0] t,h.rd.gr ((Gr.refl w).alloc _),?_,h.ok,h.n⟩
 obtain⟨_,a',cap',e,h2 | ⟨b,o,rfl,hb,_⟩⟩:=h.rd
 ·exact .inl h2.1
 ·injection e with e1 e2 e3
  subst e1
  refine .inr (fun h=>?_)
  have:b=w.heap.size:=by simpa [Value.ownBlock] using h
  omega
set_option maxHeartbeats 2000000 in
theorem next_any (T:Nat) (a:Option Addr) (cap:Nat) (xs:List Int) (k:Nat) (n:Int) (w:World) (hT:Tape w T a cap xs k) (hk:k≤1000000) (h1:1≤n) (h2:n≤2147483647) :
  Calls Tryz.prog 33 #[.pointer (some ⟨T,0,none⟩),.int .i64 n] w fun e w'=>∃ r:Int,e=.returned (.int .i64 r)∧0≤r∧r<n∧w.grownBy w' (some T)∧Tape w' T a cap xs (k+1):=by
 have hT':=Lib.hid hT
 obtain⟨hx,c0,c1,f0,f1⟩:=hT.cel.two
 have hn:=hT.n
 have hrd:=hT.rd
 have hok:=Lib.hid hT.ok
 clear hT
 have q0:decide (n<1)=false:=decide_eq_false (by omega)
 by_cases g:k<xs.length
 ·have q1:decide (k<xs.length)=true:=decide_eq_true g
  obtain⟨b,o,cap',e1,hb,hc⟩:=hrd.addr (by omega)
  injection e1 with e1 e2 e3
  subst e1
  subst e3
  have hc:=hc k (.int .i64 xs[k]) (by simp [g])
  have hxk:=hok.out _ (List.getElem_mem g)
  generalize xs[k]=v at hc hxk
  clear hrd
  go_enter Tryz.func33,Tryz.ntmps33
  go_wp2
  refine wp_region_gr (by kernel_rfl) (by kernel_rfl) (fun hq1 hq2=>?_)
  repeat (first | go_big_quiet_skip | (go_big_quiet_want;go_big_quiet_op;first | go_big_quiet_on | (apply Exists.intro;refine⟨fun _=>?_,?_⟩;(· (fail));go_big_quiet_on)))
  refine wpQuiet_nil ?_
  clear hq1 hq2
  rintro w1 ⟨⟨_,hg1⟩,rfl⟩
  obtain⟨hc1,hf1⟩:=hg1.cells
  have hz1:=hg1.size
  (try simp at hz1);(try have hl1_0_0:w.heap.size<w1.heap.size:=by omega);(try have hm1_0_0:w.heap.size≤w1.heap.size:=by omega);(try have hl1_0_1:w.heap.size+1<w1.heap.size:=by omega);(try have hl1_0_2:w.heap.size+2<w1.heap.size:=by omega)
  go_wp2
  have d0:=(hc1 T _ hx).trans c0
  have d1:=(hc1 T _ hx).trans c1
  have dc:=(hc1 b _ hb).trans hc
  have hx1:T<w1.heap.size:=Nat.lt_of_lt_of_le hx hg1.size
  have hb1:b<w1.heap.size:=Nat.lt_of_lt_of_le hb hg1.size
  clear hc1 hf1
  refine wp_region_gr (by kernel_rfl) (by kernel_rfl) (fun hq1 hq2=>?_)
  repeat (first | go_big_quiet_skip | (go_big_quiet_want;go_big_quiet_op;first | go_big_quiet_on | (apply Exists.intro;refine⟨fun _=>?_,?_⟩;(· (fail));go_big_quiet_on)))
  refine wpQuiet_nil ?_
  clear hq1 hq2
  rintro w2 ⟨⟨_,hg2⟩,rfl⟩
  obtain⟨hc2,hf2⟩:=hg2.cells
  have hz2:=hg2.size
  (try simp at hz2);(try have hl2_0_0:w.heap.size<w2.heap.size:=by omega);(try have hm2_0_0:w.heap.size≤w2.heap.size:=by omega);(try have hl2_0_1:w.heap.size+1<w2.heap.size:=by omega);(try have hl2_0_2:w.heap.size+2<w2.heap.size:=by omega);(try have hl2_1_0:w1.heap.size<w2.heap.size:=by omega);(try have hm2_1_0:w1.heap.size≤w2.heap.size:=by omega);(try have hl2_1_1:w1.heap.size+1<w2.heap.size:=by omega);(try have hl2_1_2:w1.heap.size+2<w2.heap.size:=by omega)
  have k0:=(hc2 T _ hx1).trans d0
  have k1:=(hc2 T _ hx1).trans d1
  have hg12:=hg1.trans hg2
  have kf:w2.frozen? ⟨T,1,none⟩=false:=((hg1.trans hg2).cells.2 T _ hx).trans f1
  clear hc2 hf2
  have hb2:=tape_mod v n h1 h2
  go_wp2
  go_ret
  have hs:=hT'.out.step hg12
  exact⟨_,rfl,hb2.1,hb2.2,hs.1,hs.2⟩
 ·have q1:decide (k<xs.length)=false:=decide_eq_false (by omega)
  obtain⟨v,hv⟩:∃ v:Int,(k:Int) * 7+3=v:=⟨_,rfl⟩
  clear hrd
  go_enter Tryz.func33,Tryz.ntmps33
  go_wp2
  refine wp_region_gr (by kernel_rfl) (by kernel_rfl) (fun hq1 hq2=>?_)
  repeat (first | go_big_quiet_skip | (go_big_quiet_want;go_big_quiet_op;first | go_big_quiet_on | (apply Exists.intro;refine⟨fun _=>?_,?_⟩;(· (fail));go_big_quiet_on)))
  refine wpQuiet_nil ?_
  clear hq1 hq2
  rintro w1 ⟨⟨_,hg1⟩,rfl⟩
  obtain⟨hc1,hf1⟩:=hg1.cells
  have hz1:=hg1.size
  (try simp at hz1);(try have hl1_0_0:w.heap.size<w1.heap.size:=by omega);(try have hm1_0_0:w.heap.size≤w1.heap.size:=by omega);(try have hl1_0_1:w.heap.size+1<w1.heap.size:=by omega);(try have hl1_0_2:w.heap.size+2<w1.heap.size:=by omega)
  have d0:=(hc1 T _ hx).trans c0
  have d1:=(hc1 T _ hx).trans c1
  have kf:w1.frozen? ⟨T,1,none⟩=false:=(hg1.cells.2 T _ hx).trans f1
  have hx1:T<w1.heap.size:=Nat.lt_of_lt_of_le hx hg1.size
  clear hc1 hf1
  have hb2:=tape_mod v n h1 h2
  have ev:v.tmod n=v % n:=Int.tmod_eq_emod_of_nonneg (by omega)
  rw [ev] at hb2
  go_wp2
  go_ret
  have hs:=hT'.out.step hg1
  exact⟨_,rfl,hb2.1,hb2.2,hs.1,hs.2⟩
def ByT (W:World) (T:Nat) (w:World):Prop:=W.grownBy w (some T)
theorem ByT.refl (W:World) (T:Nat):ByT W T W:=grownBy_refl _ _
theorem ByT.step {W w w':World} {T:Nat} {row:Option Nat} (h:ByT W T w) (hg:w.grownBy w' row) (hr:∀ k,row=some k→k=T∨W.heap.size≤k):ByT W T w':=by
 refine⟨hg.os.trans h.os,hg.tape.trans h.tape,hg.output.trans h.output,Nat.le_trans h.size hg.size,fun k hk hne=>?_⟩
 rw [hg.block k (Nat.lt_of_lt_of_le hk h.size) (fun e=>by
  rcases hr k e.symm with h1 | h1
  ·exact hne (by rw [h1])
  ·omega)]
 exact h.block k hk hne
theorem ByT.gr {W w w':World} {T:Nat} (h:ByT W T w) (hg:Gr w w'):ByT W T w':=h.step hg.by0 (fun k hk=>by cases hk)
theorem ByT.set {W w:World} {T:Nat} (h:ByT W T w) {p:Addr} (hp:W.heap.size≤p.block) (u:Value):ByT W T (w.setCell p u):=
 h.step (grown_setCell w p u) (fun k hk=>by injection hk with hk;subst hk;exact .inr hp)
theorem ByT.size {W w:World} {T:Nat} (h:ByT W T w):W.heap.size≤w.heap.size:=World.grownBy.size h
theorem Tape.later {W0 W w:World} {T:Nat} {a:Option Addr} {cap:Nat} {xs:List Int} {k k0:Nat} {row:Option Nat} (h0:Tape W0 T a cap xs k0) (hg:W.grownBy w row) (h1:row≠some T) (hr:∀ k,row=some k→W0.heap.size≤k) (h:Tape W T a cap xs k):Tape w T a cap xs k:=by
 refine⟨h.cel.grown hg h1,h.rd.grown hg ?_,h.ne,h.ok,h.n⟩
 obtain⟨_,a',cap',e,h2 | ⟨b,o,rfl,hb,_⟩⟩:=h0.rd
 ·exact .inl h2.1
 ·injection e with e1 e2 e3
  subst e1
  refine .inr (.inl fun e=>?_)
  have:=hr b (by rw [← e];rfl)
  omega
theorem grown_trans {a b c:World} {row:Option Nat} (h:a.grownBy b row) (g:b.grownBy c row):a.grownBy c row:=
 ⟨g.os.trans h.os,g.tape.trans h.tape,g.output.trans h.output,Nat.le_trans h.size g.size,fun k hk hne=>(g.block k (Nat.lt_of_lt_of_le hk h.size) hne).trans (h.block k hk hne)⟩
theorem CuesO.keep {base:Nat} {e:TypeId} {W w:World} {v:Value} {cs:List Cu} {T:Nat} (h:CuesO base e W v cs) (hg:W.grownBy w (some T)) (hT:T<base) (hl:∀ c∈cs,c.lv.ownBlock≠some T):CuesO base e w v cs:=by
 refine⟨h.own.kept hg (.inr (fun h1=>by have:=own_ge h.own _ h1;omega)),fun c hc=>⟨Rd.grown hg (.inr (.inl (hl c hc))) (h.lines c hc).1,fun k hk=>?_⟩⟩
 rcases (h.lines c hc).2 k hk with h1 | ⟨c2,t2,f2,h2,hne⟩
 ·exact .inl h1
 ·refine .inr ⟨c2,t2,f2,?_,hne⟩
  rw [hg.block k (Array.getElem?_eq_some_iff.1 h2).1 (fun e=>hl c hc (by rw [hk];exact e))]
  exact h2
end Go.Proofs.YtgbiodnfpbhjiaaGreatDoor
