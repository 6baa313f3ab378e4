/-
  What a slice holds, said of a world: its cells in order; a list of strings; a list of captions. What new memory leaves of it.
  Conditions: none.
-/
import Derived.Test.YtnginfangeikpaaGreatDoorKit
import Derived.WalkKit
import Derived.OwnWalk
import Derived.Laws.OwnMore
import Derived.Laws.AppendOwnNone
import Derived.Lib.FrozenHead2
namespace Go.Proofs.YtnginfangeikpaaGreatDoor
open Go.RowKit
set_option linter.unusedVariables false
theorem Cel.grown {W w:World} {g:Nat} {vs:List Value} {row:Option Nat} (hg:W.grownBy w row) (hr:row≠some g) (h:Cel W g vs):Cel w g vs:=by
 have hb:=hg.block g h.1 (fun e=>hr e.symm)
 exact⟨Nat.lt_of_lt_of_le h.1 hg.size,fun j v hv=>⟨by rw [World.cell?_of_block (a:=⟨g,j,none⟩) hb];exact (h.2 j v hv).1,by rw [World.frozen?_of_block (a:=⟨g,j,none⟩) hb];exact (h.2 j v hv).2⟩⟩
def Rd (W:World) (v:Value) (n size:Nat) (xs:List Value):Prop:=
 xs.length=n * size∧∃ (a:Option Addr) (cap:Nat),v=.slice a n cap∧((n=0∧(a=none→cap=0))∨∃ b o,a=some ⟨b,o,none⟩∧b<W.heap.size∧∀ j u,xs[j]?=some u→W.cell? ⟨b,o+j,none⟩=some u)
theorem Rd.grown {W w:World} {v:Value} {n size:Nat} {xs:List Value} {row:Option Nat} (hg:W.grownBy w row) (hr:n=0∨v.ownBlock≠row∨row=none∨v.ownBlock=none) (h:Rd W v n size xs):Rd w v n size xs:=by
 obtain⟨hl,a,cap,rfl,h0⟩:=h
 refine⟨hl,a,cap,rfl,?_⟩
 rcases h0 with h0 | ⟨b,o,rfl,hb,hc⟩
 ·exact .inl h0
 rcases Nat.eq_zero_or_pos n with hn | hn
 ·exact .inl ⟨hn,fun h=>by cases h⟩
 refine .inr ⟨b,o,rfl,Nat.lt_of_lt_of_le hb hg.size,fun j u hu=>?_⟩
 rw [World.cell?_of_block (a:=⟨b,o+j,none⟩) (hg.block b hb ?_)]
 ·exact hc j u hu
 ·rcases hr with h | h | h | h
  ·omega
  ·simpa [Value.ownBlock] using h
  ·rw [h];simp
  ·simp [Value.ownBlock] at h
theorem Gr.by0 {W w:World} (h:Gr W w):W.grownBy w none:=⟨h.os,h.tape,h.output,h.size,fun k hk _=>h.block k hk⟩
theorem Gr.grown {a w w':World} {row:Option Nat} (h:Gr a w) (hg:w.grownBy w' row) (hr:∀ k,row=some k→a.heap.size≤k):Gr a w':=Below.grown h hg h.size hr
theorem Rd.gr {W w:World} {v:Value} {n size:Nat} {xs:List Value} (hg:Gr W w) (h:Rd W v n size xs):Rd w v n size xs:=h.grown hg.by0 (.inr (.inr (.inl rfl)))
theorem Rd.nil (W:World) (size:Nat):Rd W (.slice none 0 0) 0 size []:=⟨by simp,none,0,rfl,.inl ⟨rfl,fun _=>rfl⟩⟩
theorem Rd.own {W:World} {v:Value} {base n size:Nat} {e:TypeId} {xs:List Value} (h:W.ownsRow base e size v n xs):Rd W v n size xs:=by
 refine⟨h.1,?_⟩
 rcases h.2 with ⟨rfl,rfl⟩ | ⟨g,cap,cur,rfl,hb,hg,hr⟩
 ·exact⟨none,0,rfl,.inl ⟨rfl,fun _=>rfl⟩⟩
 ·refine⟨_,cap,rfl,.inr ⟨g,0,rfl,(Array.getElem?_eq_some_iff.1 hg).1,fun j u hu=>?_⟩⟩
  have:=h.cells (g:=g) rfl j u hu
  simpa [Addr.add_lit] using this
theorem Rd.addr {W:World} {v:Value} {n size:Nat} {xs:List Value} (h:Rd W v n size xs) (hn:0<n):∃ b o cap,v=.slice (some ⟨b,o,none⟩) n cap∧b<W.heap.size∧∀ j u,xs[j]?=some u→W.cell? ⟨b,o+j,none⟩=some u:=by
 obtain⟨_,a,cap,rfl,h0 | ⟨b,o,rfl,hb,hc⟩⟩:=h
 ·omega
 ·exact⟨b,o,cap,rfl,hb,hc⟩
def StrsR (W:World) (v:Value) (ss:List ByteArray):Prop:=Rd W v ss.length 1 (ss.map Value.string)
theorem StrsR.gr {W w:World} {v:Value} {ss:List ByteArray} (hg:Gr W w) (h:StrsR W v ss):StrsR w v ss:=Rd.gr hg h
theorem StrsR.nil (W:World):StrsR W (.slice none 0 0) []:=Rd.nil W 1
theorem StrsR.shape {W:World} {v:Value} {ss:List ByteArray} (h:StrsR W v ss):∃ a cap,v=.slice a ss.length cap ∧
  (ss.length=0∨∃ b o,a=some ⟨b,o,none⟩∧b<W.heap.size∧∀ (i:Nat) (hi:i<ss.length),W.cell? ⟨b,o+i,none⟩=some (.string ss[i])):=by
 obtain⟨_,a,cap,rfl,h0 | ⟨b,o,rfl,hb,hc⟩⟩:=h
 ·exact⟨a,cap,rfl,.inl h0.1⟩
 ·exact⟨_,cap,rfl,.inr ⟨b,o,rfl,hb,fun i hi=>hc i _ (by simp [hi])⟩⟩
structure Cu where
 f:Int
 t:Int
 lv:Value
 ss:List ByteArray
def Cu.cells (c:Cu):List Value:=[.int .i64 c.f,.int .i64 c.t,c.lv]
def Cu.val (c:Cu):Value:=.agg #[.int .i64 c.f,.int .i64 c.t,c.lv]
def flat (cs:List Cu):List Value:=cs.flatMap Cu.cells
theorem flat_append (a b:List Cu):flat (a ++ b)=flat a ++ flat b:=by unfold flat;rw [List.flatMap_append]
theorem flat_at (cs:List Cu) (i:Nat) (hi:i<cs.length):(flat cs)[i * 3]?=some (.int .i64 cs[i].f)∧(flat cs)[i * 3+1]?=some (.int .i64 cs[i].t)∧(flat cs)[i * 3+2]?=some cs[i].lv:=by
 induction cs generalizing i with
 | nil=>simp at hi
 | cons c cs ih=>
  rw [show flat (c :: cs)=c.cells ++ flat cs from rfl]
  have hl:c.cells.length=3:=rfl
  cases i with
  | zero=>simp [Cu.cells]
  | succ i=>
   have h:=ih i (by simpa using hi)
   rw [show (i+1) * 3=i * 3+3 by omega,List.getElem?_append_right (by omega),List.getElem?_append_right (by omega),List.getElem?_append_right (by omega),hl,
    show i * 3+3 - 3=i * 3 by omega,show i * 3+3+1 - 3=i * 3+1 by omega,show i * 3+3+2 - 3=i * 3+2 by omega]
   simpa using h
def CuesR (W:World) (v:Value) (cs:List Cu):Prop:=Rd W v cs.length 3 (flat cs)∧∀ c∈cs,StrsR W c.lv c.ss
theorem CuesR.gr {W w:World} {v:Value} {cs:List Cu} (hg:Gr W w) (h:CuesR W v cs):CuesR w v cs:=⟨h.1.gr hg,fun c hc=>(h.2 c hc).gr hg⟩
theorem CuesR.nil (W:World):CuesR W (.slice none 0 0) []:=⟨Rd.nil W 3,fun c hc=>by cases hc⟩
theorem CuesR.shape {W:World} {v:Value} {cs:List Cu} (h:CuesR W v cs):∃ a cap,v=.slice a cs.length cap ∧
  (cs.length=0∨∃ b o,a=some ⟨b,o,none⟩∧b<W.heap.size∧∀ (i:Nat) (hi:i<cs.length),W.cell? ⟨b,o+i * 3,none⟩=some (.int .i64 cs[i].f)∧W.cell? ⟨b,o+i * 3+1,none⟩=some (.int .i64 cs[i].t)∧W.cell? ⟨b,o+i * 3+2,none⟩=some cs[i].lv):=by
 obtain⟨⟨_,a,cap,rfl,h0 | ⟨b,o,rfl,hb,hc⟩⟩,_⟩:=h
 ·exact⟨a,cap,rfl,.inl h0.1⟩
 ·refine⟨_,cap,rfl,.inr ⟨b,o,rfl,hb,fun i hi=>?_⟩⟩
  have:=flat_at cs i hi
  exact⟨hc _ _ this.1,by rw [Nat.add_assoc];exact hc _ _ this.2.1,by rw [Nat.add_assoc];exact hc _ _ this.2.2⟩
def Far (base:Nat) (e:TypeId) (W:World) (lv:Value):Prop:=∀ k,lv.ownBlock=some k→k<base∨∃ cur t fz,W.heap[k]?=some (.cells cur t fz)∧t≠e
theorem Far.ne {base size n:Nat} {e:TypeId} {W:World} {lv v:Value} {xs:List Value} (h:Far base e W lv) (ho:W.ownsRow base e size v n xs):lv.ownBlock≠v.ownBlock∨lv.ownBlock=none:=by
 cases hk:lv.ownBlock with
 | none=>exact .inr rfl
 | some k=>
  left
  intro he
  rcases ho.2 with ⟨rfl,_⟩ | ⟨g,cap,cur,rfl,hb,hg,_⟩
  ·simp [Value.ownBlock] at he
  ·have hkg:k=g:=by simpa [Value.ownBlock] using he
   subst hkg
   rcases h k hk with h1 | ⟨c2,t2,f2,h2,hne⟩
   ·omega
   ·rw [hg] at h2
    injection h2 with h2
    injection h2 with h3 h4 h5
    exact hne h4.symm
theorem Far.grown {base size n:Nat} {e:TypeId} {W w:World} {lv v:Value} {xs:List Value} (h:Far base e W lv) (ho:W.ownsRow base e size v n xs) (hg:W.grownBy w v.ownBlock):Far base e w lv:=by
 intro k hk
 rcases h k hk with h1 | ⟨c2,t2,f2,h2,hne⟩
 ·exact .inl h1
 ·refine .inr ⟨c2,t2,f2,?_,hne⟩
  rw [hg.block k (Array.getElem?_eq_some_iff.1 h2).1 (by
   rcases h.ne ho with h3 | h3
   ·rw [← hk];exact h3
   ·rw [hk] at h3;cases h3)]
  exact h2
theorem Far.gr {base:Nat} {e:TypeId} {W w:World} {lv:Value} (hg:Gr W w) (h:Far base e W lv):Far base e w lv:=by
 intro k hk
 rcases h k hk with h1 | ⟨c2,t2,f2,h2,hne⟩
 ·exact .inl h1
 ·refine .inr ⟨c2,t2,f2,?_,hne⟩
  rw [Below.block hg k (Array.getElem?_eq_some_iff.1 h2).1]
  exact h2
theorem Far.old {W:World} {base:Nat} {e:TypeId} {lv:Value} (h:∀ k,lv.ownBlock=some k→k<base):Far base e W lv:=fun k hk=>.inl (h k hk)
theorem Far.row {W:World} {base b2 size n:Nat} {e e2:TypeId} {lv:Value} {xs:List Value} (h:W.ownsRow b2 e2 size lv n xs) (hne:e2≠e):Far base e W lv:=by
 intro k hk
 rcases h.2 with ⟨rfl,_⟩ | ⟨g,cap,cur,rfl,hb,hg,_⟩
 ·simp [Value.ownBlock] at hk
 ·have hkg:g=k:=by simpa [Value.ownBlock] using hk
  subst hkg
  exact .inr ⟨_,_,_,hg,hne⟩
structure CuesO (base:Nat) (e:TypeId) (W:World) (v:Value) (cs:List Cu):Prop where
 own:W.ownsRow base e 3 v cs.length (flat cs)
 lines:∀ c∈cs,StrsR W c.lv c.ss∧Far base e W c.lv
theorem CuesO.nil (base:Nat) (e:TypeId) (W:World):CuesO base e W (.slice none 0 0) []:=⟨World.ownsRow_nil _ _ _ _,fun c hc=>by cases hc⟩
theorem CuesO.read {base:Nat} {e:TypeId} {W:World} {v:Value} {cs:List Cu} (h:CuesO base e W v cs):CuesR W v cs:=⟨Rd.own h.own,fun c hc=>(h.lines c hc).1⟩
theorem own_gr {base size n:Nat} {e:TypeId} {W w:World} {v:Value} {xs:List Value} (hg:Gr W w) (h:W.ownsRow base e size v n xs):w.ownsRow base e size v n xs:=
 h.kept hg.by0 (Classical.em _)
theorem CuesO.gr {base:Nat} {e:TypeId} {W w:World} {v:Value} {cs:List Cu} (hg:Gr W w) (h:CuesO base e W v cs):CuesO base e w v cs:=
 ⟨own_gr hg h.own,fun c hc=>⟨(h.lines c hc).1.gr hg,(h.lines c hc).2.gr hg⟩⟩
theorem CuesO.app {base : Nat} {e : TypeId} {W w : World} {v v' : Value} {cs : List Cu} (c : Cu) (h : CuesO base e W v cs) (hs : StrsR W c.lv c.ss) (hf : Far base e W c.lv)
    (ho : w.ownsRow base e 3 v' (cs.length + 1) (flat cs ++ c.cells)) (hg : W.grownBy w v.ownBlock) : CuesO base e w v' (cs ++ [c]) := by
  refine ⟨?_, fun d hd => ?_⟩
  · rw [flat_append, List.length_append, show flat [c] = c.cells by simp [flat]]
    exact ho
  · have : StrsR W d.lv d.ss ∧ Far base e W d.lv := by
      rcases List.mem_append.1 hd with h1 | h1
      · exact h.lines d h1
      · rw [List.mem_singleton.1 h1]; exact ⟨hs, hf⟩
    exact ⟨Rd.grown hg (.inr (by rcases this.2.ne h.own with h3 | h3
                                 · exact .inl h3
                                 · exact .inr (.inr h3))) this.1, this.2.grown h.own hg⟩
def StrsO (base:Nat) (e:TypeId) (W:World) (v:Value) (ss:List ByteArray):Prop:=W.ownsRow base e 1 v ss.length (ss.map Value.string)
theorem StrsO.read {base:Nat} {e:TypeId} {W:World} {v:Value} {ss:List ByteArray} (h:StrsO base e W v ss):StrsR W v ss:=Rd.own h
theorem StrsO.gr {base:Nat} {e:TypeId} {W w:World} {v:Value} {ss:List ByteArray} (hg:Gr W w) (h:StrsO base e W v ss):StrsO base e w v ss:=own_gr hg h
theorem StrsO.nil (base:Nat) (e:TypeId) (W:World):StrsO base e W (.slice none 0 0) []:=World.ownsRow_nil _ _ _ _
theorem Rd.new (W:World) (C:Array Value) (t:TypeId) (n size cap:Nat) (h:C.size=n * size):Rd (W.alloc (.cells C t)) (.slice (some ⟨W.heap.size,0,none⟩) n cap) n size C.toList:=by
 refine⟨by simpa using h,_,cap,rfl,.inr ⟨_,0,rfl,by simp,fun j u hu=>?_⟩⟩
 have:=(Cel.new W C t).2 j u hu
 simpa using this.1
theorem own_empty (W:World) (base:Nat) (e:TypeId) (size:Nat) (h:base≤W.heap.size):(W.alloc (.cells #[] e)).ownsRow base e size (.slice (some ⟨W.heap.size,0,none⟩) 0 0) 0 []:=
 ⟨by simp,.inr ⟨W.heap.size,0,#[],rfl,h,heap_alloc_new W _,Nat.le_refl _,by unfold maxLen;omega,by simp,by simp⟩⟩
theorem grownBy_refl (w:World) (row:Option Nat):w.grownBy w row:=⟨rfl,rfl,rfl,Nat.le_refl _,fun _ _ _=>rfl⟩
theorem wpList_append_rd {P:Program} {w:World} {ops:Array Oper} {rest:List Oper} {o:Oper} {a:Act} {Q:Exit→Act→World→Prop} (hgd:o.guard=none) (s x:Operand) (t:TypeId)
  (ho:o.op=.call { callee:=.builtin .append,args:=#[s,x],argTypes:=#[t,t] })
  (base:Nat) (e:TypeId) (i:TypeInfo) (z:Value) (size bytes:Nat) (ht:P.underlying t=some (.slice e)) (hi:P.info? e=some i) (hz:i.zero=some z)
  (hsize:i.size=size) (hby:i.bytes=bytes) (hzs:z.cells.size=size) (hsz:0<size)
  (v:Value) (n:Nat) (xs:List Value) (hs:a.eval s=v) (hown:w.ownsRow base e size v n xs)
  (u:Value) (m:Nat) (news:List Value) (hx:a.eval x=u) (hR:Rd w u m size news) (h1:∀ u∈news,u.oneCell'=true)
  (h63:n+m≤maxLen) (hbytes:(n+m) * bytes≤140737488355328) (hbase:base≤w.heap.size)
  (h:∀ v' w',w'.ownsRow base e size v' (n+m) (xs ++ news)→w.grownBy w' v.ownBlock→wpList P ops Q rest (a.put o.dst v') w'):wpList P ops Q (o :: rest) a w:=by
 obtain⟨hl,ad,cap,rfl,h0⟩:=hR
 cases ad with
 | none=>
  rcases h0 with ⟨rfl,h0⟩ | ⟨b,o2,h0,_⟩
  ·obtain rfl:cap=0:=h0 rfl
   have hn:news=[]:=List.eq_nil_of_length_eq_zero (by simpa using hl)
   subst hn
   exact wpList_append_own_none hgd s x t ho base e i size ht hi v n xs hs hown hx (h v w (by simpa using hown) (grownBy_refl _ _))
  ·cases h0
 | some ad=>
  refine wpList_append_own w hgd s x t ho base e i z size bytes ht hi hz hsize hby hzs hsz v n xs hs hown ad m cap news hx hl ?_ h1 h63 hbytes hbase (fun v' w' h2 h3 _=>h v' w' h2 h3)
  intro j y hj
  rcases h0 with ⟨rfl,_⟩ | ⟨b,o2,h0,hb,hc⟩
  ·have hn:news=[]:=List.eq_nil_of_length_eq_zero (by simpa using hl)
   subst hn
   cases hj
  ·injection h0 with h0
   subst h0
   have:=hc j y hj
   simpa [Addr.add_lit] using this
theorem grown_setCell (w:World) (a:Addr) (u:Value):w.grownBy (w.setCell a u) (some a.block):=
 ⟨rfl,rfl,rfl,by simp [World.setCell],fun k _ hk=>Below.heap_setCell _ _ _ k (fun e=>hk (by rw [e]))⟩
theorem Rd.setCell {W:World} {v:Value} {n size:Nat} {xs:List Value} (a:Addr) (u:Value) (ha:v.ownBlock≠some a.block) (h:Rd W v n size xs):Rd (W.setCell a u) v n size xs:=
 h.grown (grown_setCell W a u) (.inr (.inl ha))
theorem CuesR.setCell {W:World} {v:Value} {cs:List Cu} (a:Addr) (u:Value) (ha:v.ownBlock≠some a.block) (hl:∀ c∈cs,c.lv.ownBlock≠some a.block) (h:CuesR W v cs):CuesR (W.setCell a u) v cs:=
 ⟨h.1.setCell a u ha,fun c hc=>(h.2 c hc).setCell a u (hl c hc)⟩
theorem own_shape {w:World} {base n size:Nat} {e:TypeId} {v:Value} {xs:List Value} (h:w.ownsRow base e size v n xs):∃ a cap,v=.slice a n cap:=by
 rcases h.2 with ⟨rfl,rfl⟩ | ⟨g,cap,cur,rfl,_⟩
 ·exact⟨_,_,rfl⟩
 ·exact⟨_,_,rfl⟩
theorem own_ge {w:World} {base n size:Nat} {e:TypeId} {v:Value} {xs:List Value} (h:w.ownsRow base e size v n xs):∀ k,v.ownBlock=some k→base≤k:=fun k hk=>by
 rcases h.2 with ⟨rfl,rfl⟩ | ⟨g,cap,cur,rfl,hb,_⟩
 ·simp [Value.ownBlock] at hk
 ·have:g=k:=by simpa [Value.ownBlock] using hk
  omega
def Blk (w:World) (b:Nat) (T:TypeId) (vs:List Value):Prop:=w.heap[b]?=some (.cells vs.toArray T (0,0))
theorem Blk.cell {w:World} {b:Nat} {T:TypeId} {vs:List Value} (h:Blk w b T vs) (j:Nat):w.cell? ⟨b,j,none⟩=vs[j]?:=by
 unfold Blk at h
 simp [World.cell?,h]
theorem Blk.frozen {w:World} {b:Nat} {T:TypeId} {vs:List Value} (h:Blk w b T vs) (j:Nat):w.frozen? ⟨b,j,none⟩=false:=by
 unfold Blk at h
 simp [World.frozen?,h]
theorem Blk.lt {w:World} {b:Nat} {T:TypeId} {vs:List Value} (h:Blk w b T vs):b<w.heap.size:=(Array.getElem?_eq_some_iff.1 h).1
theorem Blk.shape {w:World} {b:Nat} {T:TypeId} {vs:List Value} (h:Blk w b T vs):w.shape? b=some (T,vs.length):=by
 unfold Blk at h
 simp [World.shape?,h]
theorem Blk.new (w:World) (vs:List Value) (T:TypeId):Blk (w.alloc (.cells vs.toArray T)) w.heap.size T vs:=heap_alloc_new w _
theorem Blk.grown {w w':World} {b:Nat} {T:TypeId} {vs:List Value} {row:Option Nat} (h:Blk w b T vs) (hg:w.grownBy w' row) (hr:row≠some b):Blk w' b T vs:=by
 unfold Blk
 rw [hg.block b h.lt (fun e=>hr e.symm)]
 exact h
theorem Blk.gr {w w':World} {b:Nat} {T:TypeId} {vs:List Value} (h:Blk w b T vs) (hg:Gr w w'):Blk w' b T vs:=h.grown hg.by0 (fun e=>by cases e)
theorem Blk.set {w:World} {b:Nat} {T:TypeId} {vs:List Value} (h:Blk w b T vs) (k:Nat) (u:Value):Blk (w.setCell ⟨b,k,none⟩ u) b T (vs.set k u):=by
 unfold Blk
 rw [heap_setCell_same w b k vs.toArray T u h]
 simp
theorem Blk.cel {w:World} {b:Nat} {T:TypeId} {vs:List Value} (h:Blk w b T vs):Cel w b vs:=⟨h.lt,fun j v hv=>⟨by rw [h.cell];exact hv,h.frozen j⟩⟩
theorem Blk.row {w:World} {b base size n:Nat} {T e:TypeId} {vs xs:List Value} {v:Value} (h:Blk w b T vs) (ho:w.ownsRow base e size v n xs) (hne:T≠e):v.ownBlock≠some b:=by
 intro hb
 rcases ho.2 with ⟨rfl,_⟩ | ⟨g,cap,cur,rfl,_,hg,_⟩
 ·simp [Value.ownBlock] at hb
 ·have:g=b:=by simpa [Value.ownBlock] using hb
  subst this
  unfold Blk at h
  rw [h] at hg
  injection hg with hg
  injection hg with h1 h2 h3
  exact hne h2
theorem Blk.rowF {w:World} {b base size n:Nat} {T e:TypeId} {vs xs:List Value} {v:Value} (h:Blk w b T vs) (ho:w.ownsRowF base e size v n xs) (hne:T≠e):v.ownBlock≠some b:=by
 intro hb
 rcases ho.2 with ⟨rfl,_⟩ | ⟨g,cap,cur,fz,rfl,_,hg,_⟩
 ·simp [Value.ownBlock] at hb
 ·have:g=b:=by simpa [Value.ownBlock] using hb
  subst this
  unfold Blk at h
  rw [h] at hg
  injection hg with hg
  injection hg with h1 h2 h3
  exact hne h2
theorem ownF_shape {w:World} {base n size:Nat} {e:TypeId} {v:Value} {xs:List Value} (h:w.ownsRowF base e size v n xs):∃ a cap,v=.slice a n cap:=by
 rcases h.2 with ⟨rfl,rfl⟩ | ⟨g,cap,cur,fz,rfl,_⟩
 ·exact⟨_,_,rfl⟩
 ·exact⟨_,_,rfl⟩
theorem ownF_ge {w:World} {base n size:Nat} {e:TypeId} {v:Value} {xs:List Value} (h:w.ownsRowF base e size v n xs):∀ k,v.ownBlock=some k→base≤k:=fun k hk=>(h.lt k hk).1
def IsRow (w:World) (k:Nat):Prop:=∃ c t f,w.heap[k]?=some (.cells c t f)
theorem ownF_isRow {w:World} {base n size:Nat} {e:TypeId} {v:Value} {xs:List Value} (h:w.ownsRowF base e size v n xs):∀ k,v.ownBlock=some k→IsRow w k:=fun k hk=>by
 rcases h.2 with ⟨rfl,rfl⟩ | ⟨g,cap,cur,fz,rfl,_,hg,_⟩
 ·simp [Value.ownBlock] at hk
 ·have:g=k:=by simpa [Value.ownBlock] using hk
  subst this
  exact⟨_,_,_,hg⟩
def By (S:Nat→Prop) (w w':World):Prop:=w'.os=w.os∧w'.tape=w.tape∧w'.output=w.output∧w.heap.size≤w'.heap.size∧(∀ k,k<w.heap.size→¬ S k→w'.heap[k]?=w.heap[k]?)∧∀ k,k<w.heap.size→¬ IsRow w k→w'.heap[k]?=w.heap[k]?
theorem By.refl (S:Nat→Prop) (w:World):By S w w:=⟨rfl,rfl,rfl,Nat.le_refl _,fun _ _ _=>rfl,fun _ _ _=>rfl⟩
theorem By.size {S:Nat→Prop} {w w':World} (h:By S w w'):w.heap.size≤w'.heap.size:=h.2.2.2.1
theorem By.block {S:Nat→Prop} {w w':World} (h:By S w w') {k:Nat} (hk:k<w.heap.size) (hn:¬ S k):w'.heap[k]?=w.heap[k]?:=h.2.2.2.2.1 k hk hn
theorem By.other {S:Nat→Prop} {w w':World} (h:By S w w') {k:Nat} (hk:k<w.heap.size) (hn:¬ IsRow w k):w'.heap[k]?=w.heap[k]?:=h.2.2.2.2.2 k hk hn
theorem By.trans {S S':Nat→Prop} {a b c:World} (h:By S a b) (g:By S' b c) (hS:∀ k,k<a.heap.size→S' k→S k):By S a c:=
 ⟨g.1.trans h.1,g.2.1.trans h.2.1,g.2.2.1.trans h.2.2.1,Nat.le_trans h.size g.size,fun k hk hn=>(g.block (Nat.lt_of_lt_of_le hk h.size) (fun e=>hn (hS k hk e))).trans (h.block hk hn),
  fun k hk hn=>by
   have h1:=h.other hk hn
   exact (g.other (Nat.lt_of_lt_of_le hk h.size) (fun ⟨c,t,f,e⟩=>hn ⟨c,t,f,by rw [← h1];exact e⟩)).trans h1⟩
theorem By.mono {S S':Nat→Prop} {a b:World} (h:By S a b) (hS:∀ k,k<a.heap.size→S k→S' k):By S' a b:=⟨h.1,h.2.1,h.2.2.1,h.size,fun k hk hn=>h.block hk (fun e=>hn (hS k hk e)),fun k hk hn=>h.other hk hn⟩
theorem By.of_gr {S:Nat→Prop} {a b:World} (h:Gr a b):By S a b:=⟨h.os,h.tape,h.output,h.size,fun k hk _=>h.block k hk,fun k hk _=>h.block k hk⟩
theorem By.of_grown {S:Nat→Prop} {a b:World} {row:Option Nat} (h:a.grownBy b row) (hr:∀ k,row=some k→IsRow a k) (hS:∀ k,row=some k→S k):By S a b:=
 ⟨h.os,h.tape,h.output,h.size,fun k hk hn=>h.block k hk (fun e=>hn (hS k e.symm)),fun k hk hn=>h.block k hk (fun e=>hn (hr k e.symm))⟩
theorem By.of_set (a:World) (p:Addr) (u:Value):By (fun k=>k=p.block) a (a.setCell p u):=by
 have h:=grown_setCell a p u
 refine⟨h.os,h.tape,h.output,h.size,fun k hk hn=>h.block k hk (fun e=>hn (by injection e)),fun k hk hn=>?_⟩
 by_cases hkp:p.block=k
 ·simp only [World.setCell,Array.getElem?_modify]
  rw [if_pos hkp]
  cases ho:a.heap[k]? with
  | none=>rfl
  | some o=>
   cases o with
   | cells c t f=>exact absurd ⟨c,t,f,ho⟩ hn
   | _=>rfl
 ·exact h.block k hk (fun e=>hkp (by injection e with e;exact e.symm))
theorem By.gr {a b:World} {S:Nat→Prop} (h:By S a b) (hS:∀ k,S k→a.heap.size≤k):Gr a b:=⟨h.1,h.2.1,h.2.2.1,h.size,fun k hk=>h.block hk (fun e=>by have:=hS k e;omega)⟩
theorem By.blk {S:Nat→Prop} {w w':World} (h:By S w w') {b:Nat} {T:TypeId} {vs:List Value} (hb:Blk w b T vs) (hn:¬ S b):Blk w' b T vs:=by
 unfold Blk
 rw [h.block hb.lt hn]
 exact hb
theorem By.grownBy {S:Nat→Prop} {w w':World} (h:By S w w') {v:Value} (hv:∀ k,v.ownBlock=some k→¬ S k) {base size n:Nat} {e:TypeId} {xs:List Value} (ho:w.ownsRow base e size v n xs):w'.ownsRow base e size v n xs:=by
 refine⟨ho.1,?_⟩
 rcases ho.2 with hn | ⟨g,cap,cur,rfl,hb,hgg,rest⟩
 ·exact .inl hn
 ·refine .inr ⟨g,cap,cur,rfl,hb,?_,rest⟩
  rw [h.block (Array.getElem?_eq_some_iff.1 hgg).1 (hv g rfl)]
  exact hgg
open Go.RowKit Go.Lib
theorem ba_ext {a b:ByteArray} (h:a.data.toList=b.data.toList):a=b:=by
 cases a;cases b;simp at h;simp [h]
theorem ba_len (s:ByteArray):s.data.toList.length=s.size:=by simp
theorem ba_neq {t s:ByteArray} (h:t≠s):(t.toList == s.toList)=false:=by
 rw [ByteArray.toList_eq,ByteArray.toList_eq]
 exact beq_false_of_ne (fun e=>h (ba_ext e))
theorem ba_drop (s:ByteArray) (k:Nat) (h:k<s.size):s.data.toList.drop k=s[k] :: s.data.toList.drop (k+1):=by
 rw [List.drop_eq_getElem_cons (by simpa using h)]
 rfl
theorem ba_drop_end (s:ByteArray) (k:Nat) (h:s.size≤k):s.data.toList.drop k=[]:=List.drop_of_length_le (by simpa using h)
end Go.Proofs.YtnginfangeikpaaGreatDoor
