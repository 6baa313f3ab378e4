/-
  Clips in memory: a clip's cells, a track in memory, a clip's box; whole loads and stores of clips.
  Conditions: none.
-/
import Derived.Test.YtgbiodnfpbhjiaaGreatDoorMathCa
import Derived.Test.YtgbiodnfpbhjiaaGreatDoorMem
import Derived.Deep.WholeRow
import Derived.Shelf.SlicesQ.Load
import Derived.Laws.CopyOwn
import Derived.Great.BuildSlice
namespace Go.Proofs.YtgbiodnfpbhjiaaGreatDoor
open Go.RowKit Go.Lib
set_option linter.unusedVariables false
structure CM where
 c:Cl
 cv:Value
def Sr.cells (s:Sr):List Value:=[.int .i64 s.k,.string s.nm,.int .i64 s.an,.int .i64 s.ad,.int .i64 s.sn,.int .i64 s.sd,.bool s.sm]
def Sr.val (s:Sr):Value:=.agg #[.int .i64 s.k,.string s.nm,.int .i64 s.an,.int .i64 s.ad,.int .i64 s.sn,.int .i64 s.sd,.bool s.sm]
def CM.cells (m:CM):List Value:=[.int .i64 m.c.len,.int .i64 m.c.kind,.int .i64 m.c.a.k,.string m.c.a.nm,.int .i64 m.c.a.an,.int .i64 m.c.a.ad,.int .i64 m.c.a.sn,.int .i64 m.c.a.sd,.bool m.c.a.sm,
 .int .i64 m.c.b.k,.string m.c.b.nm,.int .i64 m.c.b.an,.int .i64 m.c.b.ad,.int .i64 m.c.b.sn,.int .i64 m.c.b.sd,.bool m.c.b.sm,.int .i64 m.c.off,.int .i64 m.c.tot,.int .i64 m.c.par,.string m.c.tx,.int .i64 m.c.gain,m.cv]
def CM.val (m:CM):Value:=.agg m.cells.toArray
theorem CM.len22 (m:CM):m.cells.length=22:=rfl
def intsV (xs:List Int):List Value:=xs.map fun x=>Value.int .i64 x
def ChR (w:World) (m:CM):Prop:=Rd w m.cv m.c.ch.length 1 (intsV m.c.ch)
theorem ChR.gr {w w':World} {m:CM} (hg:Gr w w') (h:ChR w m):ChR w' m:=Rd.gr hg h
theorem ChR.slice {w:World} {m:CM} (h:ChR w m):∃ a cap,m.cv=.slice a m.c.ch.length cap:=by
 obtain⟨_,a,cap,h1,_⟩:=h
 exact⟨a,cap,h1⟩
theorem ChR.one {w:World} {m:CM} (h:ChR w m):∀ v∈m.cells,v.oneCell'=true:=by
 obtain⟨a,cap,hv⟩:=h.slice
 intro v hm
 unfold CM.cells at hm
 simp only [List.mem_cons,List.not_mem_nil,or_false] at hm
 rcases hm with rfl | rfl | rfl | rfl | rfl | rfl | rfl | rfl | rfl | rfl | rfl | rfl | rfl | rfl | rfl | rfl | rfl | rfl | rfl | rfl | rfl | rfl <;> first | rfl | (rw [hv];rfl)
def cflat (cs:List CM):List Value:=cs.flatMap CM.cells
theorem cflat_length (cs:List CM):(cflat cs).length=cs.length * 22:=by
 induction cs with
 | nil=>rfl
 | cons c cs ih=>
  rw [show cflat (c :: cs)=c.cells ++ cflat cs from rfl,List.length_append,ih,CM.len22]
  simp
  omega
theorem cflat_append (a b:List CM):cflat (a ++ b)=cflat a ++ cflat b:=by unfold cflat;rw [List.flatMap_append]
theorem cflat_at (cs:List CM) (i:Nat) (hi:i<cs.length) (j:Nat) (hj:j<22):(cflat cs)[i * 22+j]?=cs[i].cells[j]?:=by
 induction cs generalizing i with
 | nil=>simp at hi
 | cons c cs ih=>
  rw [show cflat (c :: cs)=c.cells ++ cflat cs from rfl]
  have hl:c.cells.length=22:=rfl
  cases i with
  | zero=>
   rw [List.getElem?_append_left (by omega)]
   simp
  | succ i=>
   have h:=ih i (by simpa using hi)
   rw [List.getElem?_append_right (by omega),hl,show (i+1) * 22+j - 22=i * 22+j by omega,h]
   simp
structure TrR (w:World) (v:Value) (cs:List CM):Prop where
 rd:Rd w v cs.length 22 (cflat cs)
 ch:∀ c∈cs,ChR w c
theorem TrR.gr {w w':World} {v:Value} {cs:List CM} (hg:Gr w w') (h:TrR w v cs):TrR w' v cs:=⟨h.rd.gr hg,fun c hc=>(h.ch c hc).gr hg⟩
theorem TrR.nil (w:World):TrR w (.slice none 0 0) []:=⟨Rd.nil w 22,fun c hc=>by cases hc⟩
theorem TrR.shape {w:World} {v:Value} {cs:List CM} (h:TrR w v cs):∃ a cap,v=.slice a cs.length cap ∧
  (cs.length=0∨∃ b o,a=some ⟨b,o,none⟩∧b<w.heap.size∧∀ (i:Nat) (hi:i<cs.length) (j:Nat) (u:Value),cs[i].cells[j]?=some u→w.cell? ⟨b,o+i * 22+j,none⟩=some u):=by
 obtain⟨⟨_,a,cap,rfl,h0 | ⟨b,o,rfl,hb,hc⟩⟩,_⟩:=h
 ·exact⟨a,cap,rfl,.inl h0.1⟩
 ·refine⟨_,cap,rfl,.inr ⟨b,o,rfl,hb,fun i hi j u hu=>?_⟩⟩
  have hj:j<22:=(List.getElem?_eq_some_iff.1 hu).1
  rw [Nat.add_assoc]
  exact hc _ _ (by rw [cflat_at cs i hi j hj];exact hu)
theorem ld_row {P:Program} {w:World} {b q k:Nat} {l:List Value} (hk:l.length=k) (h:∀ (j:Nat) (u:Value),l[j]?=some u→w.cell? ⟨b,q+j,none⟩=some u) :
  Sem.run P (loadCellsFrom ⟨b,q,none⟩ 0 k #[]) w=.ok l.toArray w:=
 run_loadCellsFrom_list P w ⟨b,q,none⟩ l k hk fun j v hv=>by
  have:=h j v hv
  simpa [Addr.add_lit] using this
theorem ld_cel {P:Program} {w:World} {g k:Nat} {l:List Value} (hk:l.length=k) (h:Cel w g l) :
  Sem.run P (loadCellsFrom ⟨g,0,none⟩ 0 k #[]) w=.ok l.toArray w:=
 ld_row hk fun j u hu=>by rw [Nat.zero_add];exact (h.2 j u hu).1
theorem st_new {P:Program} (w:World) (t:TypeId) (c:Array Value) (l:List Value) (hi:(P.info? t).map (·.size)=some l.length) (ho:c.size=l.length) (h1:∀ v∈l,v.oneCell'=true) :
  (storeCells ⟨w.heap.size,0,none⟩ l 0).run P (w.alloc (.cells c t))=.ok () (w.alloc (.cells l.toArray t)):=by
 have:=run_storeCells_new (P:=P) w t c l.toArray (by simpa using hi) (by simpa using ho) (by simpa using h1)
 simpa using this
theorem st_blk {P:Program} {w:World} {g:Nat} {t:TypeId} {vs l:List Value} (h:Blk w g t vs) (hl:l.length=vs.length) (h1:∀ v∈l,v.oneCell'=true) :
  (storeCells ⟨g,0,none⟩ l 0).run P w=.ok () (w.setRow g l.toArray):=by
 have:=run_storeCells_from (P:=P) g t l 0 vs.toArray w h (by simp [hl]) h1
 simpa using this
theorem Blk.setRow {w:World} {g:Nat} {t:TypeId} {vs:List Value} (h:Blk w g t vs) (l:List Value):Blk (w.setRow g l.toArray) g t l:=setRow_heap w g _ _ t _ h
theorem Blk.setRow_other {w:World} {g b:Nat} {t:TypeId} {vs:List Value} (h:Blk w b t vs) (hb:b≠g) (l:Array Value):Blk (w.setRow g l) b t vs:=by
 unfold Blk
 rw [Go.setRow_other w g b l hb]
 exact h
theorem Gr.setRow {a w:World} (h:Gr a w) {g:Nat} (hg:a.heap.size≤g) (l:Array Value):Gr a (w.setRow g l):=below_setRow h hg l
theorem Blk.other {w:World} {b:Nat} {T:TypeId} {vs:List Value} (h:Blk w b T vs) {p:Addr} (hp:p.block≠b) (u:Value):Blk (w.setCell p u) b T vs:=by
 unfold Blk
 rw [Below.heap_setCell _ _ _ b (fun e=>hp e.symm)]
 exact h
theorem ld_blk {P:Program} {w:World} {g k:Nat} {t:TypeId} {l:List Value} (hk:l.length=k) (h:Blk w g t l) :
  Sem.run P (loadCellsFrom ⟨g,0,none⟩ 0 k #[]) w=.ok l.toArray w:=ld_cel hk h.cel
theorem grown_setRow (w:World) (g:Nat) (l:Array Value):w.grownBy (w.setRow g l) (some g):=
 ⟨rfl,rfl,rfl,by simp,fun k _ hk=>Go.setRow_other w g k l (fun e=>hk (by rw [e]))⟩
theorem Far.keep {base g:Nat} {e:TypeId} {W w:World} {v:Value} (h:Far base e W v) (hg:W.grownBy w (some g)) (hne:v.ownBlock≠some g):Far base e w v:=by
 intro k hk
 rcases h k hk with h1 | ⟨c2,t2,f2,h2,h3⟩
 ·exact .inl h1
 ·refine .inr ⟨c2,t2,f2,?_,h3⟩
  rw [hg.block k (Array.getElem?_eq_some_iff.1 h2).1 (fun e=>hne (by rw [hk,e]))]
  exact h2
theorem Far.up {b:Nat} {e:TypeId} {W:World} {lv:Value} (h:Far 0 e W lv):Far b e W lv:=fun k hk=>(h k hk).elim (fun h=>by omega) .inr
structure TrO (base:Nat) (W:World) (v:Value) (cs:List CM):Prop where
 own:W.ownsRow base 81 22 v cs.length (cflat cs)
 ch:∀ c∈cs,ChR W c∧Far 0 81 W c.cv
theorem TrO.nil (base:Nat) (W:World):TrO base W (.slice none 0 0) []:=⟨World.ownsRow_nil _ _ _ _,fun c hc=>by cases hc⟩
theorem TrO.read {base:Nat} {W:World} {v:Value} {cs:List CM} (h:TrO base W v cs):TrR W v cs:=⟨Rd.own h.own,fun c hc=>(h.ch c hc).1⟩
theorem TrO.gr {base:Nat} {W w:World} {v:Value} {cs:List CM} (hg:Gr W w) (h:TrO base W v cs):TrO base w v cs:=
 ⟨own_gr hg h.own,fun c hc=>⟨(h.ch c hc).1.gr hg,(h.ch c hc).2.gr hg⟩⟩
theorem TrO.less {b1 b2:Nat} {W:World} {v:Value} {cs:List CM} (h:TrO b2 W v cs) (hb:b1≤b2):TrO b1 W v cs:=by
 refine⟨⟨h.own.1,?_⟩,h.ch⟩
 rcases h.own.2 with h1 | ⟨g,cap,cur,e,hg,r⟩
 ·exact .inl h1
 ·exact .inr ⟨g,cap,cur,e,by omega,r⟩
theorem far_keep {base:Nat} {W w:World} {v:Value} {n size:Nat} {xs:List Value} {c:CM} (ho:W.ownsRow base 81 size v n xs) (hg:W.grownBy w v.ownBlock) (h1:ChR W c) (h2:Far 0 81 W c.cv):ChR w c∧Far 0 81 w c.cv:=by
 have hne:=(h2.up (b:=base)).ne ho
 refine⟨Rd.grown hg ?_ h1,fun k hk=>?_⟩
 ·rcases hne with h3 | h3
  ·exact .inr (.inl h3)
  ·exact .inr (.inr (.inr h3))
 ·rcases h2 k hk with h3 | ⟨c2,t2,f2,h3,h4⟩
  ·omega
  ·refine .inr ⟨c2,t2,f2,?_,h4⟩
   rw [hg.block k (Array.getElem?_eq_some_iff.1 h3).1 (by
    rcases hne with h5 | h5
    ·rw [← hk];exact h5
    ·rw [hk] at h5;cases h5)]
   exact h3
theorem TrO.app {base:Nat} {W w:World} {v v':Value} {cs:List CM} (c:CM) (h:TrO base W v cs) (hs:ChR W c) (hf:Far 0 81 W c.cv)
  (ho:w.ownsRow base 81 22 v' (cs.length+1) (cflat cs ++ c.cells)) (hg:W.grownBy w v.ownBlock):TrO base w v' (cs ++ [c]):=by
 refine⟨?_,fun d hd=>?_⟩
 ·rw [cflat_append,List.length_append,show cflat [c]=c.cells by simp [cflat]]
  exact ho
 ·rcases List.mem_append.1 hd with h1 | h1
  ·exact far_keep h.own hg (h.ch d h1).1 (h.ch d h1).2
  ·rw [List.mem_singleton.1 h1];exact far_keep h.own hg hs hf
theorem cflat_set:∀ (cs:List CM) (i:Nat) (hi:i<cs.length) (j:Nat) (u:Value) (m':CM),j<22→m'.cells=cs[i].cells.set j u→(cflat cs).set (i * 22+j) u=cflat (cs.set i m')
 | x :: cs,0,hi,j,u,m',hj,hc=>by
  have hl:x.cells.length=22:=rfl
  rw [show cflat (x :: cs)=x.cells ++ cflat cs from rfl,List.set_cons_zero,show cflat (m' :: cs)=m'.cells ++ cflat cs from rfl,List.set_append_left _ _ (by omega),hc]
  simp
 | x :: cs,i+1,hi,j,u,m',hj,hc=>by
  have hl:x.cells.length=22:=rfl
  rw [show cflat (x :: cs)=x.cells ++ cflat cs from rfl,List.set_cons_succ,show cflat (x :: cs.set i m')=x.cells ++ cflat (cs.set i m') from rfl,List.set_append_right _ _ (by omega),← cflat_set cs i (by simpa using hi) j u m' hj hc]
  rw [show (i+1) * 22+j - x.cells.length=i * 22+j by omega]
theorem TrO.set {base g cap:Nat} {w:World} {cs:List CM} (h:TrO base w (.slice (some ⟨g,0,none⟩) cs.length cap) cs) (i:Nat) (hi:i<cs.length) (j:Nat) (hj:j<22) (u:Value) (m':CM) (hc:m'.cells=cs[i].cells.set j u) (hv:m'.cv=cs[i].cv) (hch:m'.c.ch=cs[i].c.ch) :
  TrO base (w.setCell ⟨g,i * 22+j,none⟩ u) (.slice (some ⟨g,0,none⟩) (cs.set i m').length cap) (cs.set i m'):=by
 obtain⟨h1,h2⟩:=h.own.stored (i * 22+j) u
 rw [cflat_set cs i hi j u m' hj hc] at h1
 refine⟨by rw [List.length_set];exact h1,fun c hcm=>?_⟩
 have hold:∀ d∈cs,ChR (w.setCell ⟨g,i * 22+j,none⟩ u) d∧Far 0 81 (w.setCell ⟨g,i * 22+j,none⟩ u) d.cv:=fun d hd=>far_keep h.own h2 (h.ch d hd).1 (h.ch d hd).2
 rcases List.mem_or_eq_of_mem_set hcm with h3 | h3
 ·exact hold c h3
 ·obtain⟨q1,q2⟩:=hold _ (List.getElem_mem hi)
  rw [h3]
  unfold ChR at *
  rw [hv,hch]
  exact⟨q1,q2⟩
theorem bs_one {P:Program} {t e:TypeId} {n:Nat} (hu:P.underlying t=some (.slice e)) (hi:(P.info? e).map (fun i=>(i.zero.map fun z=>z.cells.size,i.size))=some (some n,n)) (h0:0<n) (h9:n≤16777216) (l:List Value) (hl:l.length=n) (w:World) :
  (Instr.buildSlice t 1 #[(0,.agg l.toArray)]).run P w=.ok (.slice (some ⟨w.heap.size,0,none⟩) 1 1) (w.alloc (.cells l.toArray e)):=by
 cases hq:P.info? e with
 | none=>simp [hq] at hi
 | some ie=>
  cases hz:ie.zero with
  | none=>simp [hq,hz] at hi
  | some z=>
   simp [hq,hz] at hi
   refine run_buildSlice w t e 1 _ _ ie z hu hq hz (by rw [hi.2];omega) (by rw [hi.2];omega) ?_
   have:=Great.fill_whole h0 [Value.agg l.toArray] ((Array.range (1 * ie.size)).map (z.cells[· % z.cells.size]!)) (fun v hv=>by rw [List.mem_singleton.1 hv];simpa [Value.cells] using hl) (by simp [hi.2])
   simpa [hi.2,Value.cells] using this
theorem wpList_bs1 {P:Program} {ops:Array Oper} {rest:List Oper} {o:Oper} {a:Act} {w:World} {Q:Exit→Act→World→Prop} (hg:o.guard=none) (t e:TypeId) (x:Operand) (ho:o.op=.buildSlice t 1 #[(0,x)]) (n:Nat)
  (hu:P.underlying t=some (.slice e)) (hi:(P.info? e).map (fun i=>(i.zero.map fun z=>z.cells.size,i.size))=some (some n,n)) (h0:0<n) (h9:n≤16777216) (l:List Value) (hl:l.length=n) (hx:a.eval x=.agg l.toArray)
  (h:wpList P ops Q rest (a.put o.dst (.slice (some ⟨w.heap.size,0,none⟩) 1 1)) (w.alloc (.cells l.toArray e))):wpList P ops Q (o :: rest) a w:=by
 cases hq:P.info? e with
 | none=>simp [hq] at hi
 | some ie=>
  cases hz:ie.zero with
  | none=>simp [hq,hz] at hi
  | some z=>
   simp [hq,hz] at hi
   refine wpList_buildSlice hg t e 1 _ ho _ ie z hu hq hz (by rw [hi.2];omega) (by rw [hi.2];omega) ?_ h
   have:=Great.fill_whole h0 [Value.agg l.toArray] ((Array.range (1 * ie.size)).map (z.cells[· % z.cells.size]!)) (fun v hv=>by rw [List.mem_singleton.1 hv];simpa [Value.cells] using hl) (by simp [hi.2])
   simpa [hi.2,Value.cells,hx] using this
end Go.Proofs.YtgbiodnfpbhjiaaGreatDoor
