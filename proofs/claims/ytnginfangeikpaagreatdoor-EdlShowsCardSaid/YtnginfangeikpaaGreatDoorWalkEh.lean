/-
  The beginning of the law's maker of lists: the title and the base, in whatever order they are made.
  Conditions: the numbers lie in memory.
-/
import Derived.Test.YtnginfangeikpaaGreatDoorWalkEe
import Derived.Test.YtnginfangeikpaaGreatDoorWalkTp
import Derived.Test.YtnginfangeikpaaGreatDoorReg7
import Derived.Test.YtnginfangeikpaaGreatDoorClip
import Derived.Deep.DeepCutAuto
namespace Go.Proofs.YtnginfangeikpaaGreatDoor
open Go.RowKit Go.Lib
set_option linter.unusedSimpArgs false
set_option linter.unusedVariables false
def FSl (vs:List Value) (T n:Nat) (x:Value) (w:World):Prop:=∃ G,x=.slice (some ⟨G,0,none⟩) n n∧T<G∧Cel w G vs
def FPt (vs:List Value) (T n:Nat) (x:Value) (w:World):Prop:=∃ G r:Nat,x=.pointer (some ⟨G,r,none⟩)∧T<G∧r<n∧Cel w G vs
theorem FSl.keep {vs:List Value} {T n:Nat} {x:Value} {w w':World} (hg:w.grownBy w' (some T)) (h:FSl vs T n x w):FSl vs T n x w':=by
 obtain⟨G,h1,h2,h3⟩:=h
 exact⟨G,h1,h2,h3.grown hg (fun e=>by injection e with e;omega)⟩
theorem FPt.keep {vs:List Value} {T n:Nat} {x:Value} {w w':World} (hg:w.grownBy w' (some T)) (h:FPt vs T n x w):FPt vs T n x w':=by
 obtain⟨G,r,h1,h2,h3,h4⟩:=h
 exact⟨G,r,h1,h2,h3,h4.grown hg (fun e=>by injection e with e;omega)⟩
theorem Gr.byT {w w':World} (h:Gr w w') (T:Nat):w.grownBy w' (some T):=⟨h.os,h.tape,h.output,h.size,fun k hk _=>h.block k hk⟩
def titlesL:List ByteArray:=[⟨#[82,69,69,76,32,79,78,69]⟩,⟨#[120]⟩]
abbrev titlesV:List Value:=[.string ⟨#[82,69,69,76,32,79,78,69]⟩,.string ⟨#[120]⟩]
abbrev basesV:List Value:=[.int .i64 25,.int .i64 30,.int .i64 24,.int .i64 60]
def isBs (b:Int):Prop:=b=25∨b=30∨b=24∨b=60
abbrev zeroL:List Value:=[.string ⟨#[]⟩,.int .i64 0,.bool false,.slice none 0 0]
structure MJ (w0:World) (T k:Nat) (a:Option Addr) (cap:Nat) (xs:List Int) (x0 x1 x2 x3 x4 x5 x6 x7 x8 x9 x10 x11:Value) (L:Nat→Bool) (w:World):Prop where
 gr:Gr w0 w
 lt:T<w.heap.size
 le:w0.heap.size<T
 res:Cel w w0.heap.size zeroL
 last:L 12=true→∀ i,i<12→L i=true
 c27:L 7=true→L 2=true
 t0:L 2=false→Tape w T a cap xs k
 t1:L 2=true→L 7=false→Tape w T a cap xs (k+1)
 t2:L 7=true→Tape w T a cap xs (k+2)
 r0:L 0=true→L 12=false→FSl titlesV T 2 x0 w
 r1:L 1=true→x1=.pointer (some ⟨T,0,none⟩)
 r2:L 2=true→∃ r:Nat,x2=.int .i64 r∧r<2
 r3:L 3=true→L 12=false→FPt titlesV T 2 x3 w
 r4:L 4=true→∃ s,x4=.string s∧s∈titlesL
 r5:L 5=true→L 12=false→FSl basesV T 4 x5 w
 r6:L 6=true→x6=.pointer (some ⟨T,0,none⟩)
 r7:L 7=true→∃ r:Nat,x7=.int .i64 r∧r<4
 r8:L 8=true→L 12=false→FPt basesV T 4 x8 w
 r9:L 9=true→∃ b,x9=.int .i64 b∧isBs b
 r10:L 10=true→∃ s b,x10=.agg #[.string s,.int .i64 b,.bool false,.slice none 0 0]∧s∈titlesL∧isBs b
 r11:L 11=true→L 12=false→∃ G,x11=.pointer (some ⟨G,0,none⟩)∧T<G∧Cel w G zeroL
 r12:L 12=true→∃ G s b,x11=.pointer (some ⟨G,0,none⟩)∧T<G∧Cel w G [.string s,.int .i64 b,.bool false,.slice none 0 0]∧s∈titlesL∧isBs b
def MJL (w0:World) (T k:Nat) (a:Option Addr) (cap:Nat) (xs:List Int) (vs:List Value) (L:Nat→Bool) (w:World):Prop:=
 ∃ x0 x1 x2 x3 x4 x5 x6 x7 x8 x9 x10 x11,vs=[x0,x1,x2,x3,x4,x5,x6,x7,x8,x9,x10,x11]∧MJ w0 T k a cap xs x0 x1 x2 x3 x4 x5 x6 x7 x8 x9 x10 x11 L w
theorem MJ.quiet {w0 : World} {T k : Nat} {a : Option Addr} {cap : Nat} {xs : List Int} {x0 x1 x2 x3 x4 x5 x6 x7 x8 x9 x10 x11 : Value} {L : Nat → Bool} {w w' : World} (h : MJ w0 T k a cap xs x0 x1 x2 x3 x4 x5 x6 x7 x8 x9 x10 x11 L w) (hg : w.grownBy w' (some T)) (h12 : L 12 = false)
    (t0 : L 2 = false → Tape w' T a cap xs k) (t1 : L 2 = true → L 7 = false → Tape w' T a cap xs (k + 1)) (t2 : L 7 = true → Tape w' T a cap xs (k + 2)) : MJ w0 T k a cap xs x0 x1 x2 x3 x4 x5 x6 x7 x8 x9 x10 x11 L w' :=
  ⟨h.gr.grown hg (fun k hk => by injection hk with hk; have := h.le; omega), Nat.lt_of_lt_of_le h.lt (World.grownBy.size hg), h.le, h.res.grown hg (fun e => by injection e with e; have := h.le; omega), h.last, h.c27, t0, t1, t2, fun e e' => (h.r0 e e').keep hg, h.r1, h.r2, fun e e' => (h.r3 e e').keep hg, h.r4, fun e e' => (h.r5 e e').keep hg, h.r6, h.r7, fun e e' => (h.r8 e e').keep hg, h.r9, h.r10,
   fun e e' => (h.r11 e e').imp fun G ⟨q1, q2, q3⟩ => ⟨q1, q2, q3.grown hg (fun e => by injection e with e; omega)⟩, fun e => by rw [h12] at e; cases e⟩
theorem MJ.gr' {w0:World} {T k:Nat} {a:Option Addr} {cap:Nat} {xs:List Int} {x0 x1 x2 x3 x4 x5 x6 x7 x8 x9 x10 x11:Value} {L:Nat→Bool} {w w':World} (h:MJ w0 T k a cap xs x0 x1 x2 x3 x4 x5 x6 x7 x8 x9 x10 x11 L w) (hg:Gr w w') (h12:L 12=false):MJ w0 T k a cap xs x0 x1 x2 x3 x4 x5 x6 x7 x8 x9 x10 x11 L w':=
 h.quiet (hg.byT T) h12 (fun e=>(h.t0 e).gr hg) (fun e e'=>(h.t1 e e').gr hg) (fun e=>(h.t2 e).gr hg)
theorem infoEv:(Tryz.prog.info? 38).map (fun i=>(i.zero,i.size,i.bytes))=some (some (.agg #[.int .i64 0,.int .i64 0,.int .i64 0,.string ⟨#[]⟩,.int .i64 0,.int .i64 0,.int .i64 0,.int .i64 0]),8,72):=by kernel_rfl
def reelsL:List ByteArray:=[⟨#[97]⟩,⟨#[109,49]⟩,⟨#[116,97,112,101,95,55]⟩]
def EvM (n:Int) (es:List Ev):Prop:=vEvs 30000 0 es=true∧endE 0 es≤n∧∀ e∈es,e.o≤2000+12 * es.length∧(e.reel.size=0∨e.reel∈reelsL)
structure MadeE (l:El):Prop where
 t:l.title∈titlesL
 b:isBs l.base
 d:l.drop=true→l.base=30∨l.base=60
 n:l.evs.length≤6
 v:vEvs 30000 0 l.evs=true
 o:∀ e∈l.evs,e.o≤2072∧(e.reel.size=0∨e.reel∈reelsL)
structure Lp (w0:World) (T:Nat) (a:Option Addr) (cap:Nat) (xs:List Int) (G base:Nat) (lv:List Value) (ev:Value) (es:List Ev) (kk:Nat) (wx:World):Prop where
 gr:Gr w0 wx
 tp:Tape wx T a cap xs kk
 cel:Cel wx G lv
 row:wx.ownsRow base 38 8 ev es.length (eflat es)
 res:Cel wx w0.heap.size zeroL
theorem Lp.by {w0:World} {T:Nat} {a:Option Addr} {cap:Nat} {xs:List Int} {G base:Nat} {lv:List Value} {ev:Value} {es:List Ev} {kk:Nat} {wx wy:World} (h:Lp w0 T a cap xs G base lv ev es kk wx) (hg:Gr wx wy):Lp w0 T a cap xs G base lv ev es kk wy:=
 ⟨h.gr.trans hg,h.tp.gr hg,h.cel.gr hg,own_gr hg h.row,h.res.gr hg⟩
theorem Lp.call {w0:World} {T:Nat} {a:Option Addr} {cap:Nat} {xs:List Int} {G base:Nat} {lv:List Value} {ev:Value} {es:List Ev} {kk kk':Nat} {wx wy:World} (h:Lp w0 T a cap xs G base lv ev es kk wx) (hg:wx.grownBy wy (some T)) (hT:Tape wy T a cap xs kk') (h1:w0.heap.size<T) (h2:T<G) (h3:G<base):Lp w0 T a cap xs G base lv ev es kk' wy:=
 ⟨h.gr.grown hg (fun k hk=>by injection hk with hk;omega),hT,h.cel.grown hg (fun e=>by injection e with e;omega),World.ownsRow.kept h.row hg (.inr (fun e=>by have:=own_ge h.row _ e;omega)),h.res.grown hg (fun e=>by injection e with e;omega)⟩
theorem Lp.set {w0 W0:World} {T:Nat} {a:Option Addr} {cap:Nat} {xs:List Int} {G base:Nat} {lv:List Value} {ev:Value} {es:List Ev} {kk E:Nat} {wx:World} (h:Lp w0 T a cap xs G base lv ev es kk wx) (h0:Tape W0 T a cap xs 0) (hW:W0.heap.size≤E) (h1:w0.heap.size<E) (h2:G<E) (h3:T<E) (he:ev.ownBlock≠some E) (i:Nat) (u:Value):Lp w0 T a cap xs G base lv ev es kk (wx.setCell ⟨E,i,none⟩ u):=by
 have hg:=grown_setCell wx ⟨E,i,none⟩ u
 exact⟨h.gr.grown hg (fun k hk=>by injection hk with hk;simp at hk;omega),Tape.later h0 hg (fun e=>by injection e with e;simp at e;omega) (fun k hk=>by injection hk with hk;simp at hk;omega) h.tp,h.cel.grown hg (fun e=>by injection e with e;simp at e;omega),World.ownsRow.kept h.row hg (.inr he),h.res.grown hg (fun e=>by injection e with e;simp at e;omega)⟩
theorem Lp.push {w0 W0:World} {T:Nat} {a:Option Addr} {cap:Nat} {xs:List Int} {G base:Nat} {x0 x1 x2 ev v9:Value} {es:List Ev} {e:Ev} {kk:Nat} {wx w9:World} (h:Lp w0 T a cap xs G base [x0,x1,x2,ev] ev es kk wx) (h0:Tape W0 T a cap xs 0) (hW:W0.heap.size≤G) (h1:w0.heap.size<T) (h2:T<G) (h3:G<base)
  (hown:w9.ownsRow base 38 8 v9 (es.length+1) (eflat es ++ e.cells)) (hg:wx.grownBy w9 ev.ownBlock):Lp w0 T a cap xs G base [x0,x1,x2,v9] v9 (es ++ [e]) kk (w9.setCell ⟨G,3,none⟩ v9):=by
 have hge:=own_ge h.row
 have hge9:=own_ge hown
 have hgS:=grown_setCell w9 ⟨G,3,none⟩ v9
 have hne9:v9.ownBlock≠some G:=fun h=>by have:=hge9 _ h;omega
 have hc9:=h.cel.grown hg (fun e=>by have:=hge _ e;omega)
 have hcS:=hc9.set (k:=3) (by simp) v9
 simp only [zS,zZ] at hcS
 refine⟨(h.gr.grown hg (fun k hk=>by have:=hge _ hk;omega)).grown hgS (fun k hk=>by injection hk with hk;simp at hk;omega),Tape.later h0 hgS (fun e=>by injection e with e;simp at e;omega) (fun k hk=>by injection hk with hk;simp at hk ⊢;omega) (Tape.later h0 hg (fun e=>by have:=hge _ e;omega) (fun k hk=>by have:=hge _ hk;omega) h.tp),hcS,?_,(h.res.grown hg (fun e=>by have:=hge _ e;omega)).grown hgS (fun e=>by injection e with e;simp at e;omega)⟩
 have:=World.ownsRow.kept hown hgS (.inr hne9)
 rw [eflat_append,List.length_append,List.length_singleton]
 exact this
theorem own_lt8 {W:World} {base size n:Nat} {e:TypeId} {v:Value} {xs:List Value} (h:W.ownsRow base e size v n xs):∀ k,v.ownBlock=some k→k<W.heap.size:=by
 intro k hk
 rcases h.2 with ⟨rfl,_⟩ | ⟨g,cap,cur,rfl,hb,hg,_⟩
 ·simp [Value.ownBlock] at hk
 ·have hkg:g=k:=by simpa [Value.ownBlock] using hk
  subst hkg
  exact (Array.getElem?_eq_some_iff.1 hg).1
theorem vEvs_snoc {day:Int}:∀ {es:List Ev} {n:Int} {e:Ev},vEvs day n es=true→VE e (endE n es) day→vEvs day n (es ++ [e])=true
 | [],n,e,_,he=>vEvs_cons.2 ⟨he,rfl⟩
 | x :: es,n,e,h,he=>by
  obtain⟨h1,h2⟩:=vEvs_cons.1 h
  exact vEvs_cons.2 ⟨h1,vEvs_snoc h2 he⟩
theorem reels_nm:∀ s∈reelsL,nmB s=true∧s.size≠0:=by decide +kernel
theorem EvM.snoc {n kd p fr i o f t M:Int} {reel:ByteArray} {es:List Ev} (h:EvM n es) (hn:n≤f) (h0:0≤kd) (h3:kd<3) (hM:1≤M∧M≤12∧t=f+M) (ht:t<20000) (hf0:0≤f) (hl:es.length≤6)
  (hfr:(kd=0∧fr=0)∨(kd≠0∧1≤fr∧fr≤M)) (hp:(kd=2∧0≤p∧p≤3)∨(kd≠2∧p=0)) (hr:(reel.size=0∧i=0∧o=0)∨(reel∈reelsL∧0≤i∧i≤2000+12 * es.length∧o=i+M)):EvM t (es ++ [⟨kd,p,fr,reel,i,o,f,t⟩]):=by
 obtain⟨m1,m2,m3⟩:=h
 refine⟨vEvs_snoc m1 ⟨by simp only;omega,by simp only;omega,by simp only;omega,by simp only;omega,by simp only;omega,?_⟩,by rw [endE_snoc];exact Int.le_refl _,fun e he=>?_⟩
 ·rcases hr with h | ⟨h,h1,h2,h3⟩
  ·exact .inl h
  ·obtain⟨n1,n2⟩:=reels_nm _ h
   exact .inr ⟨n2,n1,h1,by simp only;omega,by simp only;omega,by simp only;omega⟩
 ·rw [List.length_append,List.length_singleton]
  rcases List.mem_append.1 he with h | h
  ·have:=m3 e h
   exact⟨by omega,this.2⟩
  ·rw [List.mem_singleton.1 h]
   rcases hr with h | ⟨h,h1,h2,h3⟩
   ·exact⟨by simp only;omega,.inl h.1⟩
   ·exact⟨by simp only;omega,.inr h⟩
theorem reel_cell {W:World} {g rn:Nat} (h:Cel W g [.string ⟨#[97]⟩,.string ⟨#[109,49]⟩,.string ⟨#[116,97,112,101,95,55]⟩]) (hr:rn<3):∃ reel,reel∈reelsL∧W.cell? ⟨g,rn,none⟩=some (.string reel):=by
 rcases (show rn=0∨rn=1∨rn=2 by omega) with rfl | rfl | rfl
 ·exact⟨_,.head _,(h.2 0 _ rfl).1⟩
 ·exact⟨_,.tail _ (.head _),(h.2 1 _ rfl).1⟩
 ·exact⟨_,.tail _ (.tail _ (.head _)),(h.2 2 _ rfl).1⟩
theorem Lp.addr {w0:World} {T:Nat} {a:Option Addr} {cap:Nat} {xs:List Int} {G base:Nat} {lv:List Value} {p:Option Addr} {cv:Nat} {es:List Ev} {kk m:Nat} {wx:World} (h:Lp w0 T a cap xs G base lv (.slice p es.length cv) es kk wx) (hm:m<es.length):∃ rb ro,p=some ⟨rb,ro,none⟩:=by
 have hR:EvsR wx (.slice p es.length cv) es:=Rd.own h.row
 obtain⟨a',c',hv,h0⟩:=hR.shape
 injection hv with h1 h2 h3
 subst h1
 rcases h0 with h0 | ⟨rb,ro,rfl,_⟩
 ·omega
 ·exact⟨rb,ro,rfl⟩
theorem Lp.last {w0:World} {T:Nat} {a:Option Addr} {cap:Nat} {xs:List Int} {G base:Nat} {lv:List Value} {rb ro cv:Nat} {es:List Ev} {kk m:Nat} {wx:World} (h:Lp w0 T a cap xs G base lv (.slice (some ⟨rb,ro,none⟩) es.length cv) es kk wx) (hm:m<es.length):wx.cell? ⟨rb,ro+m * 8+3,none⟩=some (.string es[m].reel)∧wx.cell? ⟨rb,ro+m * 8+5,none⟩=some (.int .i64 es[m].o)∧rb<wx.heap.size:=by
 have hR:EvsR wx (.slice (some ⟨rb,ro,none⟩) es.length cv) es:=Rd.own h.row
 obtain⟨a',c',hv,h0⟩:=hR.shape
 injection hv with h1 h2 h3
 subst h1
 rcases h0 with h0 | ⟨rb',ro',he,hb,hc⟩
 ·omega
 ·injection he with he
  injection he with e1 e2 e3
  subst e1 e2
  exact⟨hc m hm 3 _ rfl,hc m hm 5 _ rfl,hb⟩
theorem vEvs_o {day:Int}:∀ {es:List Ev} {n:Int},vEvs day n es=true→0≤n→∀ e∈es,0≤e.o
 | x :: es,n,h,h0,e,he=>by
  obtain⟨h1,h2⟩:=vEvs_cons.1 h
  rcases List.mem_cons.1 he with rfl | he
  ·exact (h1.bounds h0).2.1
  ·exact vEvs_o h2 (by have:=h1.l;have:=h1.ft;omega) e he
theorem at_cell {W:World} {g rn:Nat} (h:Cel W g [.int .i64 0,.int .i64 1790,.int .i64 17970,.int .i64 100]) (hr:rn<4):∃ av:Int,0≤av∧av≤17970∧W.cell? ⟨g,rn,none⟩=some (.int .i64 av):=by
 rcases (show rn=0∨rn=1∨rn=2∨rn=3 by omega) with rfl | rfl | rfl | rfl
 ·exact⟨0,by omega,by omega,(h.2 0 _ rfl).1⟩
 ·exact⟨1790,by omega,by omega,(h.2 1 _ rfl).1⟩
 ·exact⟨17970,by omega,by omega,(h.2 2 _ rfl).1⟩
 ·exact⟨100,by omega,by omega,(h.2 3 _ rfl).1⟩
set_option maxRecDepth 20000 in
set_option maxHeartbeats 16000000 in
theorem emade_any (a : Option Addr) (cap : Nat) (xs : List Int) (w : World) (hA : TapeArg w a cap xs) :
    Calls Tryz.prog 4 #[.slice a xs.length cap] w fun e w' => ∃ (l : El) (v : Value) (base : Nat), e = .returned (l.val v) ∧ Gr w w' ∧ ElR w' v l ∧ w'.ownsRow base 38 8 v l.evs.length (eflat l.evs) ∧ w.heap.size < base ∧ MadeE l := by
  have hB := (hA.gr ((Gr.refl w).alloc (.cells #[.string ⟨#[]⟩, .int .i64 0, .bool false, .slice none 0 0] 25))).box 51
  rw [show (w.alloc (.cells #[.string ⟨#[]⟩, .int .i64 0, .bool false, .slice none 0 0] 25)).heap.size = w.heap.size + 1 by simp] at hB
  obtain ⟨T, hT⟩ : ∃ T, w.heap.size + 1 = T := ⟨_, rfl⟩
  rw [hT] at hB
  have HN : Hid (∀ (w' : World) (k' : Nat) (n : Int), Tape w' T a cap xs k' → k' ≤ 1000000 → 1 ≤ n → n ≤ 2147483647 → Calls Tryz.prog 12 #[.pointer (some ⟨T, 0, none⟩), .int .i64 n] w' fun e w'' => ∃ r : Int, e = .returned (.int .i64 r) ∧ 0 ≤ r ∧ r < n ∧ w'.grownBy w'' (some T) ∧ Tape w'' T a cap xs (k' + 1)) := fun w' k' n h1 h2 h3 h4 => next_any _ a cap xs k' n w' h1 h2 h3 h4
  have hgw : Gr w ((w.alloc (.cells #[.string ⟨#[]⟩, .int .i64 0, .bool false, .slice none 0 0] 25)).alloc (.cells #[.slice a xs.length cap, .int .i64 0] 51)) := ((Gr.refl w).alloc _).alloc _
  go_enter Tryz.func4, Tryz.ntmps4
  go_wp2
  refine wp_region_slots [13, 14, 15, 16, 17, 18, 19, 20, 21, 22, 23, 4] (MJL w T 0 a cap xs) 13 [undef, undef, undef, undef, undef, undef, undef, undef, undef, undef, undef, undef] rfl (by kernel_rfl) (by kernel_rfl) ?_ ?_ ?_ ?_
  · simp only [puts, List.zip_cons_cons, List.zip_nil_left, List.zip_nil_right, List.foldl_cons, List.foldl_nil, List.setIfInBounds_toArray, List.set_cons_succ, List.set_cons_zero]
  · have hb2 := hB.gr (Gr.refl _).drew
    exact ⟨_, _, _, _, _, _, _, _, _, _, _, _, rfl, ⟨hgw.drew, hb2.cel.lt, by omega, ((Cel.new w #[.string ⟨#[]⟩, .int .i64 0, .bool false, .slice none 0 0] 25).alloc _).drew, (fun h => by cases h), (fun h => by cases h), fun _ => hb2, (fun h => by cases h), (fun h => by cases h), (fun h => by cases h), (fun h => by cases h), (fun h => by cases h), (fun h => by cases h), (fun h => by cases h), (fun h => by cases h), (fun h => by cases h), (fun h => by cases h), (fun h => by cases h), (fun h => by cases h), (fun h => by cases h), (fun h => by cases h), (fun h => by cases h)⟩⟩
  · intro j oj hjn hoj L vs w1 hJ hLj hdep R hR
    obtain ⟨x0, x1, x2, x3, x4, x5, x6, x7, x8, x9, x10, x11, rfl, hJ⟩ := hJ
    replace hR := fun (y0 y1 y2 y3 y4 y5 y6 y7 y8 y9 y10 y11 : Value) (w' : World) (h : MJ w T 0 a cap xs y0 y1 y2 y3 y4 y5 y6 y7 y8 y9 y10 y11 (fun i => if i = j then true else L i) w') => hR [y0, y1, y2, y3, y4, y5, y6, y7, y8, y9, y10, y11] w' ⟨y0, y1, y2, y3, y4, y5, y6, y7, y8, y9, y10, y11, rfl, h⟩
    simp only [puts, List.zip_cons_cons, List.zip_nil_left, List.zip_nil_right, List.foldl_cons, List.foldl_nil, List.setIfInBounds_toArray, List.set_cons_succ, List.set_cons_zero] at hR ⊢
    by_cases hlast : j = 12
    case neg =>
      have h12 : L 12 = false := by
        cases h : L 12 with
        | false => rfl
        | true => have := hJ.last h j (by omega); rw [hLj] at this; cases this
      rcases (show j = 0 ∨ j = 1 ∨ j = 2 ∨ j = 3 ∨ j = 4 ∨ j = 5 ∨ j = 6 ∨ j = 7 ∨ j = 8 ∨ j = 9 ∨ j = 10 ∨ j = 11 by omega) with rfl | rfl | rfl | rfl | rfl | rfl | rfl | rfl | rfl | rfl | rfl | rfl
      · simp only [List.getElem?_toArray, List.getElem?_cons_succ, List.getElem?_cons_zero, Option.some.injEq] at hoj
        subst hoj
        go_wp2
        refine only_normal (hR _ _ _ _ _ _ _ _ _ _ _ _ _ ?_)
        have hq := hJ.gr' ((Gr.refl w1).alloc (.cells #[.string ⟨#[82, 69, 69, 76, 32, 79, 78, 69]⟩, .string ⟨#[120]⟩] 9)) h12
        exact ⟨hq.gr, hq.lt, hq.le, hq.res, fun e => by simp [h12] at e, fun e => by simpa using hq.c27 (by simpa using e), fun e => hq.t0 (by simpa using e), fun e e' => hq.t1 (by simpa using e) (by simpa using e'), fun e => hq.t2 (by simpa using e), fun _ _ => ⟨_, rfl, hJ.lt, Cel.new w1 #[.string ⟨#[82, 69, 69, 76, 32, 79, 78, 69]⟩, .string ⟨#[120]⟩] 9⟩, fun e => hq.r1 (by simpa using e), fun e => hq.r2 (by simpa using e), fun e e' => hq.r3 (by simpa using e) (by simpa using e'), fun e => hq.r4 (by simpa using e), fun e e' => hq.r5 (by simpa using e) (by simpa using e'), fun e => hq.r6 (by simpa using e), fun e => hq.r7 (by simpa using e), fun e e' => hq.r8 (by simpa using e) (by simpa using e'), fun e => hq.r9 (by simpa using e), fun e => hq.r10 (by simpa using e), fun e e' => hq.r11 (by simpa using e) (by simpa using e'), fun e => by simp [h12] at e⟩
      · simp only [List.getElem?_toArray, List.getElem?_cons_succ, List.getElem?_cons_zero, Option.some.injEq] at hoj
        subst hoj
        go_wp2
        refine only_normal (hR _ _ _ _ _ _ _ _ _ _ _ _ _ ?_)
        have hq := hJ
        exact ⟨hq.gr, hq.lt, hq.le, hq.res, fun e => by simp [h12] at e, fun e => by simpa using hq.c27 (by simpa using e), fun e => hq.t0 (by simpa using e), fun e e' => hq.t1 (by simpa using e) (by simpa using e'), fun e => hq.t2 (by simpa using e), fun e e' => hq.r0 (by simpa using e) (by simpa using e'), fun _ => rfl, fun e => hq.r2 (by simpa using e), fun e e' => hq.r3 (by simpa using e) (by simpa using e'), fun e => hq.r4 (by simpa using e), fun e e' => hq.r5 (by simpa using e) (by simpa using e'), fun e => hq.r6 (by simpa using e), fun e => hq.r7 (by simpa using e), fun e e' => hq.r8 (by simpa using e) (by simpa using e'), fun e => hq.r9 (by simpa using e), fun e => hq.r10 (by simpa using e), fun e e' => hq.r11 (by simpa using e) (by simpa using e'), fun e => by simp [h12] at e⟩
      · simp only [List.getElem?_toArray, List.getElem?_cons_succ, List.getElem?_cons_zero, Option.some.injEq] at hoj
        subst hoj
        obtain rfl := hJ.r1 (hdep ⟨1, .data⟩ (by simp) rfl)
        have hTn := hJ.t0 hLj
        have h7 : L 7 = false := by
          cases h : L 7 with
          | false => rfl
          | true => have := hJ.c27 h; rw [hLj] at this; cases this
        go_wp2_with (go_at_call 12; (with_reducible refine (HN.out _ 0 2 hTn ?_ ?_ ?_).mono ?_); (· omega); (· omega); (· omega); rintro e w2 ⟨r, rfl, r1, r2, hg, hT2⟩)
        refine only_normal (hR _ _ _ _ _ _ _ _ _ _ _ _ _ ?_)
        exact ⟨(hJ.gr.grown hg (fun k hk => by injection hk with hk; have := hJ.le; omega)), Nat.lt_of_lt_of_le hJ.lt (World.grownBy.size hg), hJ.le, hJ.res.grown hg (fun e => by injection e with e; have := hJ.le; omega), fun e => by simp [h12] at e, fun _ => by simp, fun e => by simp at e, fun _ _ => hT2, fun e => by simp [h7] at e, fun e e' => (hJ.r0 (by simpa using e) (by simpa using e')).keep hg, fun e => hJ.r1 (by simpa using e), fun _ => ⟨r.toNat, by rw [Int.toNat_of_nonneg r1], by omega⟩, fun e e' => (hJ.r3 (by simpa using e) (by simpa using e')).keep hg, fun e => hJ.r4 (by simpa using e), fun e e' => (hJ.r5 (by simpa using e) (by simpa using e')).keep hg, fun e => hJ.r6 (by simpa using e), fun e => hJ.r7 (by simpa using e), fun e e' => (hJ.r8 (by simpa using e) (by simpa using e')).keep hg, fun e => hJ.r9 (by simpa using e), fun e => hJ.r10 (by simpa using e), fun e e' => (hJ.r11 (by simpa using e) (by simpa using e')).imp fun G ⟨q1, q2, q3⟩ => ⟨q1, q2, q3.grown hg (fun e => by injection e with e; omega)⟩, fun e => by simp [h12] at e⟩
      · simp only [List.getElem?_toArray, List.getElem?_cons_succ, List.getElem?_cons_zero, Option.some.injEq] at hoj
        subst hoj
        obtain ⟨G, rfl, hG1, hG2⟩ := hJ.r0 (hdep ⟨0, .data⟩ (by simp) rfl) h12
        obtain ⟨r, rfl, hr⟩ := hJ.r2 (hdep ⟨2, .data⟩ (by simp) rfl)
        have hr' : (r : Int) < 2 := by omega
        go_wp2
        refine only_normal (hR _ _ _ _ _ _ _ _ _ _ _ _ _ ?_)
        have hq := hJ
        exact ⟨hq.gr, hq.lt, hq.le, hq.res, fun e => by simp [h12] at e, fun e => by simpa using hq.c27 (by simpa using e), fun e => hq.t0 (by simpa using e), fun e e' => hq.t1 (by simpa using e) (by simpa using e'), fun e => hq.t2 (by simpa using e), fun e e' => hq.r0 (by simpa using e) (by simpa using e'), fun e => hq.r1 (by simpa using e), fun e => hq.r2 (by simpa using e), fun _ _ => ⟨G, r, by simp, hG1, hr, hG2⟩, fun e => hq.r4 (by simpa using e), fun e e' => hq.r5 (by simpa using e) (by simpa using e'), fun e => hq.r6 (by simpa using e), fun e => hq.r7 (by simpa using e), fun e e' => hq.r8 (by simpa using e) (by simpa using e'), fun e => hq.r9 (by simpa using e), fun e => hq.r10 (by simpa using e), fun e e' => hq.r11 (by simpa using e) (by simpa using e'), fun e => by simp [h12] at e⟩
      · simp only [List.getElem?_toArray, List.getElem?_cons_succ, List.getElem?_cons_zero, Option.some.injEq] at hoj
        subst hoj
        obtain ⟨G, r, rfl, hG1, hr, hG2⟩ := hJ.r3 (hdep ⟨3, .data⟩ (by simp) rfl) h12
        have hx := hG2.lt
        obtain ⟨s, hs, hcell⟩ : ∃ s, s ∈ titlesL ∧ w1.cell? ⟨G, r, none⟩ = some (.string s) := by
          rcases (show r = 0 ∨ r = 1 by omega) with rfl | rfl
          · exact ⟨_, List.mem_cons_self, (hG2.2 0 _ rfl).1⟩
          · exact ⟨_, List.mem_cons_of_mem _ List.mem_cons_self, (hG2.2 1 _ rfl).1⟩
        go_wp2
        refine only_normal (hR _ _ _ _ _ _ _ _ _ _ _ _ _ ?_)
        have hq := hJ
        exact ⟨hq.gr, hq.lt, hq.le, hq.res, fun e => by simp [h12] at e, fun e => by simpa using hq.c27 (by simpa using e), fun e => hq.t0 (by simpa using e), fun e e' => hq.t1 (by simpa using e) (by simpa using e'), fun e => hq.t2 (by simpa using e), fun e e' => hq.r0 (by simpa using e) (by simpa using e'), fun e => hq.r1 (by simpa using e), fun e => hq.r2 (by simpa using e), fun e e' => hq.r3 (by simpa using e) (by simpa using e'), fun _ => ⟨s, rfl, hs⟩, fun e e' => hq.r5 (by simpa using e) (by simpa using e'), fun e => hq.r6 (by simpa using e), fun e => hq.r7 (by simpa using e), fun e e' => hq.r8 (by simpa using e) (by simpa using e'), fun e => hq.r9 (by simpa using e), fun e => hq.r10 (by simpa using e), fun e e' => hq.r11 (by simpa using e) (by simpa using e'), fun e => by simp [h12] at e⟩
      · simp only [List.getElem?_toArray, List.getElem?_cons_succ, List.getElem?_cons_zero, Option.some.injEq] at hoj
        subst hoj
        go_wp2
        refine only_normal (hR _ _ _ _ _ _ _ _ _ _ _ _ _ ?_)
        have hq := hJ.gr' ((Gr.refl w1).alloc (.cells #[.int .i64 25, .int .i64 30, .int .i64 24, .int .i64 60] 3)) h12
        exact ⟨hq.gr, hq.lt, hq.le, hq.res, fun e => by simp [h12] at e, fun e => by simpa using hq.c27 (by simpa using e), fun e => hq.t0 (by simpa using e), fun e e' => hq.t1 (by simpa using e) (by simpa using e'), fun e => hq.t2 (by simpa using e), fun e e' => hq.r0 (by simpa using e) (by simpa using e'), fun e => hq.r1 (by simpa using e), fun e => hq.r2 (by simpa using e), fun e e' => hq.r3 (by simpa using e) (by simpa using e'), fun e => hq.r4 (by simpa using e), fun _ _ => ⟨_, rfl, hJ.lt, Cel.new w1 #[.int .i64 25, .int .i64 30, .int .i64 24, .int .i64 60] 3⟩, fun e => hq.r6 (by simpa using e), fun e => hq.r7 (by simpa using e), fun e e' => hq.r8 (by simpa using e) (by simpa using e'), fun e => hq.r9 (by simpa using e), fun e => hq.r10 (by simpa using e), fun e e' => hq.r11 (by simpa using e) (by simpa using e'), fun e => by simp [h12] at e⟩
      · simp only [List.getElem?_toArray, List.getElem?_cons_succ, List.getElem?_cons_zero, Option.some.injEq] at hoj
        subst hoj
        go_wp2
        refine only_normal (hR _ _ _ _ _ _ _ _ _ _ _ _ _ ?_)
        have hq := hJ
        exact ⟨hq.gr, hq.lt, hq.le, hq.res, fun e => by simp [h12] at e, fun e => by simpa using hq.c27 (by simpa using e), fun e => hq.t0 (by simpa using e), fun e e' => hq.t1 (by simpa using e) (by simpa using e'), fun e => hq.t2 (by simpa using e), fun e e' => hq.r0 (by simpa using e) (by simpa using e'), fun e => hq.r1 (by simpa using e), fun e => hq.r2 (by simpa using e), fun e e' => hq.r3 (by simpa using e) (by simpa using e'), fun e => hq.r4 (by simpa using e), fun e e' => hq.r5 (by simpa using e) (by simpa using e'), fun _ => rfl, fun e => hq.r7 (by simpa using e), fun e e' => hq.r8 (by simpa using e) (by simpa using e'), fun e => hq.r9 (by simpa using e), fun e => hq.r10 (by simpa using e), fun e e' => hq.r11 (by simpa using e) (by simpa using e'), fun e => by simp [h12] at e⟩
      · simp only [List.getElem?_toArray, List.getElem?_cons_succ, List.getElem?_cons_zero, Option.some.injEq] at hoj
        subst hoj
        obtain rfl := hJ.r6 (hdep ⟨6, .data⟩ (by simp) rfl)
        have hTn := hJ.t1 (hdep ⟨2, .chain⟩ (by simp) rfl) hLj
        go_wp2_with (go_at_call 12; (with_reducible refine (HN.out _ 1 4 hTn ?_ ?_ ?_).mono ?_); (· omega); (· omega); (· omega); rintro e w2 ⟨r, rfl, r1, r2, hg, hT2⟩)
        refine only_normal (hR _ _ _ _ _ _ _ _ _ _ _ _ _ ?_)
        exact ⟨(hJ.gr.grown hg (fun k hk => by injection hk with hk; have := hJ.le; omega)), Nat.lt_of_lt_of_le hJ.lt (World.grownBy.size hg), hJ.le, hJ.res.grown hg (fun e => by injection e with e; have := hJ.le; omega), fun e => by simp [h12] at e, fun _ => by simpa using (hdep ⟨2, .chain⟩ (by simp) rfl), fun e => by have := (hdep ⟨2, .chain⟩ (by simp) rfl); simp [this] at e, fun e e' => by simp at e', fun _ => hT2, fun e e' => (hJ.r0 (by simpa using e) (by simpa using e')).keep hg, fun e => hJ.r1 (by simpa using e), fun e => hJ.r2 (by simpa using e), fun e e' => (hJ.r3 (by simpa using e) (by simpa using e')).keep hg, fun e => hJ.r4 (by simpa using e), fun e e' => (hJ.r5 (by simpa using e) (by simpa using e')).keep hg, fun e => hJ.r6 (by simpa using e), fun _ => ⟨r.toNat, by rw [Int.toNat_of_nonneg r1], by omega⟩, fun e e' => (hJ.r8 (by simpa using e) (by simpa using e')).keep hg, fun e => hJ.r9 (by simpa using e), fun e => hJ.r10 (by simpa using e), fun e e' => (hJ.r11 (by simpa using e) (by simpa using e')).imp fun G ⟨q1, q2, q3⟩ => ⟨q1, q2, q3.grown hg (fun e => by injection e with e; omega)⟩, fun e => by simp [h12] at e⟩
      · simp only [List.getElem?_toArray, List.getElem?_cons_succ, List.getElem?_cons_zero, Option.some.injEq] at hoj
        subst hoj
        obtain ⟨G, rfl, hG1, hG2⟩ := hJ.r5 (hdep ⟨5, .data⟩ (by simp) rfl) h12
        obtain ⟨r, rfl, hr⟩ := hJ.r7 (hdep ⟨7, .data⟩ (by simp) rfl)
        have hr' : (r : Int) < 4 := by omega
        go_wp2
        refine only_normal (hR _ _ _ _ _ _ _ _ _ _ _ _ _ ?_)
        have hq := hJ
        exact ⟨hq.gr, hq.lt, hq.le, hq.res, fun e => by simp [h12] at e, fun e => by simpa using hq.c27 (by simpa using e), fun e => hq.t0 (by simpa using e), fun e e' => hq.t1 (by simpa using e) (by simpa using e'), fun e => hq.t2 (by simpa using e), fun e e' => hq.r0 (by simpa using e) (by simpa using e'), fun e => hq.r1 (by simpa using e), fun e => hq.r2 (by simpa using e), fun e e' => hq.r3 (by simpa using e) (by simpa using e'), fun e => hq.r4 (by simpa using e), fun e e' => hq.r5 (by simpa using e) (by simpa using e'), fun e => hq.r6 (by simpa using e), fun e => hq.r7 (by simpa using e), fun _ _ => ⟨G, r, by simp, hG1, hr, hG2⟩, fun e => hq.r9 (by simpa using e), fun e => hq.r10 (by simpa using e), fun e e' => hq.r11 (by simpa using e) (by simpa using e'), fun e => by simp [h12] at e⟩
      · simp only [List.getElem?_toArray, List.getElem?_cons_succ, List.getElem?_cons_zero, Option.some.injEq] at hoj
        subst hoj
        obtain ⟨G, r, rfl, hG1, hr, hG2⟩ := hJ.r8 (hdep ⟨8, .data⟩ (by simp) rfl) h12
        have hx := hG2.lt
        obtain ⟨b, hb, hcell⟩ : ∃ b, isBs b ∧ w1.cell? ⟨G, r, none⟩ = some (.int .i64 b) := by
          rcases (show r = 0 ∨ r = 1 ∨ r = 2 ∨ r = 3 by omega) with rfl | rfl | rfl | rfl
          · exact ⟨25, .inl rfl, (hG2.2 0 _ rfl).1⟩
          · exact ⟨30, .inr (.inl rfl), (hG2.2 1 _ rfl).1⟩
          · exact ⟨24, .inr (.inr (.inl rfl)), (hG2.2 2 _ rfl).1⟩
          · exact ⟨60, .inr (.inr (.inr rfl)), (hG2.2 3 _ rfl).1⟩
        go_wp2
        refine only_normal (hR _ _ _ _ _ _ _ _ _ _ _ _ _ ?_)
        have hq := hJ
        exact ⟨hq.gr, hq.lt, hq.le, hq.res, fun e => by simp [h12] at e, fun e => by simpa using hq.c27 (by simpa using e), fun e => hq.t0 (by simpa using e), fun e e' => hq.t1 (by simpa using e) (by simpa using e'), fun e => hq.t2 (by simpa using e), fun e e' => hq.r0 (by simpa using e) (by simpa using e'), fun e => hq.r1 (by simpa using e), fun e => hq.r2 (by simpa using e), fun e e' => hq.r3 (by simpa using e) (by simpa using e'), fun e => hq.r4 (by simpa using e), fun e e' => hq.r5 (by simpa using e) (by simpa using e'), fun e => hq.r6 (by simpa using e), fun e => hq.r7 (by simpa using e), fun e e' => hq.r8 (by simpa using e) (by simpa using e'), fun _ => ⟨b, rfl, hb⟩, fun e => hq.r10 (by simpa using e), fun e e' => hq.r11 (by simpa using e) (by simpa using e'), fun e => by simp [h12] at e⟩
      · simp only [List.getElem?_toArray, List.getElem?_cons_succ, List.getElem?_cons_zero, Option.some.injEq] at hoj
        subst hoj
        obtain ⟨s, rfl, hs⟩ := hJ.r4 (hdep ⟨4, .data⟩ (by simp) rfl)
        obtain ⟨b, rfl, hb⟩ := hJ.r9 (hdep ⟨9, .data⟩ (by simp) rfl)
        go_wp2
        refine only_normal (hR _ _ _ _ _ _ _ _ _ _ _ _ _ ?_)
        have hq := hJ
        exact ⟨hq.gr, hq.lt, hq.le, hq.res, fun e => by simp [h12] at e, fun e => by simpa using hq.c27 (by simpa using e), fun e => hq.t0 (by simpa using e), fun e e' => hq.t1 (by simpa using e) (by simpa using e'), fun e => hq.t2 (by simpa using e), fun e e' => hq.r0 (by simpa using e) (by simpa using e'), fun e => hq.r1 (by simpa using e), fun e => hq.r2 (by simpa using e), fun e e' => hq.r3 (by simpa using e) (by simpa using e'), fun e => hq.r4 (by simpa using e), fun e e' => hq.r5 (by simpa using e) (by simpa using e'), fun e => hq.r6 (by simpa using e), fun e => hq.r7 (by simpa using e), fun e e' => hq.r8 (by simpa using e) (by simpa using e'), fun e => hq.r9 (by simpa using e), fun _ => ⟨s, b, rfl, hs, hb⟩, fun e e' => hq.r11 (by simpa using e) (by simpa using e'), fun e => by simp [h12] at e⟩
      · simp only [List.getElem?_toArray, List.getElem?_cons_succ, List.getElem?_cons_zero, Option.some.injEq] at hoj
        subst hoj
        go_wp2
        refine only_normal (hR _ _ _ _ _ _ _ _ _ _ _ _ _ ?_)
        have hq := hJ.gr' ((Gr.refl w1).alloc (.cells #[.string ⟨#[]⟩, .int .i64 0, .bool false, .slice none 0 0] 25)) h12
        exact ⟨hq.gr, hq.lt, hq.le, hq.res, fun e => by simp [h12] at e, fun e => by simpa using hq.c27 (by simpa using e), fun e => hq.t0 (by simpa using e), fun e e' => hq.t1 (by simpa using e) (by simpa using e'), fun e => hq.t2 (by simpa using e), fun e e' => hq.r0 (by simpa using e) (by simpa using e'), fun e => hq.r1 (by simpa using e), fun e => hq.r2 (by simpa using e), fun e e' => hq.r3 (by simpa using e) (by simpa using e'), fun e => hq.r4 (by simpa using e), fun e e' => hq.r5 (by simpa using e) (by simpa using e'), fun e => hq.r6 (by simpa using e), fun e => hq.r7 (by simpa using e), fun e e' => hq.r8 (by simpa using e) (by simpa using e'), fun e => hq.r9 (by simpa using e), fun e => hq.r10 (by simpa using e), fun _ _ => ⟨_, rfl, hJ.lt, Cel.new w1 #[.string ⟨#[]⟩, .int .i64 0, .bool false, .slice none 0 0] 25⟩, fun e => by simp [h12] at e⟩
    case pos =>
      subst hlast
      simp only [List.getElem?_toArray, List.getElem?_cons_succ, List.getElem?_cons_zero, Option.some.injEq] at hoj
      subst hoj
      obtain ⟨s, b, rfl, hs, hb⟩ := hJ.r10 (hdep ⟨10, .data⟩ (by simp) rfl)
      obtain ⟨G, rfl, hG1, hG2⟩ := hJ.r11 (hdep ⟨11, .data⟩ (by simp) rfl) hLj
      have all : ∀ i, i < 12 → L i = true := fun i hi => by
        rcases (show i = 0 ∨ i = 1 ∨ i = 2 ∨ i = 3 ∨ i = 4 ∨ i = 5 ∨ i = 6 ∨ i = 7 ∨ i = 8 ∨ i = 9 ∨ i = 10 ∨ i = 11 by omega) with rfl | rfl | rfl | rfl | rfl | rfl | rfl | rfl | rfl | rfl | rfl | rfl
        all_goals exact hdep ⟨_, .phase⟩ (by simp) rfl
      have hx := hG2.lt
      obtain ⟨c0, f0⟩ := hG2.2 0 _ rfl
      obtain ⟨c1, f1⟩ := hG2.2 1 _ rfl
      obtain ⟨c2, f2⟩ := hG2.2 2 _ rfl
      obtain ⟨c3, f3⟩ := hG2.2 3 _ rfl
      go_wp2
      have hk := (((hG2.set (k := 0) (by simp) (.string s)).set (k := 1) (by simp) (.int .i64 b)).set (k := 2) (by simp) (.bool false)).set (k := 3) (by simp) (.slice none 0 0)
      simp only [List.set_cons_succ, List.set_cons_zero] at hk
      have hgr : w1.grownBy ((((w1.setCell ⟨G, 0, none⟩ (.string s)).setCell ⟨G, 1, none⟩ (.int .i64 b)).setCell ⟨G, 2, none⟩ (.bool false)).setCell ⟨G, 3, none⟩ (.slice none 0 0)) (some G) :=
        grown_trans (grown_trans (grown_trans (grown_setCell w1 ⟨G, 0, none⟩ (.string s)) (grown_setCell _ ⟨G, 1, none⟩ (.int .i64 b))) (grown_setCell _ ⟨G, 2, none⟩ (.bool false))) (grown_setCell _ ⟨G, 3, none⟩ (.slice none 0 0))
      have hT2 := Tape.later hB hgr (fun e => by injection e with e; omega) (fun k hk => by injection hk with hk; simp; omega) (hJ.t2 (all 7 (by omega)))
      refine only_normal (hR _ _ _ _ _ _ _ _ _ _ _ _ _ ?_)
      exact ⟨hJ.gr.grown hgr (fun k hk => by injection hk with hk; have := hJ.le; omega), Nat.lt_of_lt_of_le hJ.lt (World.grownBy.size hgr), hJ.le, hJ.res.grown hgr (fun e => by injection e with e; have := hJ.le; omega), fun _ i hi => by simp [all i hi], fun _ => by simp [all 2 (by omega)], fun e => by simp [all 2 (by omega)] at e, fun _ e => by simp [all 7 (by omega)] at e, fun _ => hT2,
        fun _ e => by simp at e, fun e => hJ.r1 (all 1 (by omega)), fun e => hJ.r2 (all 2 (by omega)), fun _ e => by simp at e, fun _ => hJ.r4 (all 4 (by omega)), fun _ e => by simp at e, fun _ => hJ.r6 (all 6 (by omega)), fun _ => hJ.r7 (all 7 (by omega)), fun _ e => by simp at e, fun _ => hJ.r9 (all 9 (by omega)), fun _ => ⟨s, b, rfl, hs, hb⟩, fun _ e => by simp at e, fun _ => ⟨G, s, b, rfl, hG1, hk, hs, hb⟩⟩
  · rintro L vs w1 ⟨x0, x1, x2, x3, x4, x5, x6, x7, x8, x9, x10, x11, rfl, hJ⟩ all
    obtain ⟨G, s, b, rfl, hG1, hG2, hs, hb⟩ := hJ.r12 (all 12 (by omega))
    have hT1 := hJ.t2 (all 7 (by omega))
    have hgw1 := hJ.gr
    have hrs1 := hJ.res
    simp only [puts, List.zip_cons_cons, List.zip_nil_left, List.zip_nil_right, List.foldl_cons, List.foldl_nil, List.setIfInBounds_toArray, List.set_cons_succ, List.set_cons_zero]
    clear hJ all
    have hBT : w.heap.size < T := by omega
    go_upto_region 3 with fail
    go_cut [36] (fun v wx => ∃ (d : Bool) (k : Nat), v = .bool d ∧ (d = true → b = 30 ∨ b = 60) ∧ k ≤ 3 ∧ Tape wx T a cap xs k ∧ Cel wx G [.string s, .int .i64 b, .bool d, .slice none 0 0] ∧ Gr w wx ∧ Cel wx w.heap.size zeroL)
    case first => as_aux_lemma =>
      have hx := hG2.lt
      have c1 := (hG2.2 1 _ rfl).1
      have c2 := (hG2.2 2 _ rfl).1
      have f2 := (hG2.2 2 _ rfl).2
      have hset : ∀ (wy : World) (k : Nat) (d : Bool), Cel wy G [.string s, .int .i64 b, .bool false, .slice none 0 0] → Tape wy T a cap xs k → Gr w wy → Cel wy w.heap.size zeroL → Tape (wy.setCell ⟨G, 2, none⟩ (.bool d)) T a cap xs k ∧ Cel (wy.setCell ⟨G, 2, none⟩ (.bool d)) G [.string s, .int .i64 b, .bool d, .slice none 0 0] ∧ Gr w (wy.setCell ⟨G, 2, none⟩ (.bool d)) ∧ Cel (wy.setCell ⟨G, 2, none⟩ (.bool d)) w.heap.size zeroL := fun wy k d h1 h2 h3 h4 => by
        have hgr := grown_setCell wy ⟨G, 2, none⟩ (.bool d)
        refine ⟨Tape.later hB hgr (fun e => by injection e with e; simp at e; omega) (fun k hk => by injection hk with hk; simp at hk ⊢; omega) h2, ?_, h3.grown hgr (fun k hk => by injection hk with hk; simp at hk; omega), h4.grown hgr (fun e => by injection e with e; simp at e; omega)⟩
        have := h1.set (k := 2) (by simp) (.bool d)
        simpa only [List.set_cons_succ, List.set_cons_zero] using this
      rcases hb with rfl | rfl | rfl | rfl
      · go_wp2_with (go_at_call 12; (with_reducible refine (HN.out _ 2 2 hT1 ?_ ?_ ?_).mono ?_); (· omega); (· omega); (· omega); rintro e w2 ⟨r, rfl, r1, r2, hg, hT2⟩; have hG3 := hG2.grown hg (fun e => by injection e with e; omega); have hgw2 := hgw1.grown hg (fun k hk => by injection hk with hk; omega); have hrs2 := hrs1.grown hg (fun e => by injection e with e; omega); have y1 := hG3.lt; have y2 := (hG3.2 2 _ rfl).1; have y3 := (hG3.2 2 _ rfl).2)
        all_goals go_meet
        all_goals first
          | (obtain ⟨q1, q2, q3, q4⟩ := hset _ 2 false hG2 hT1 hgw1 hrs1; exact ⟨_, _, rfl, fun e => (by cases e), by omega, q1, q2, q3, q4⟩)
          | (obtain ⟨q1, q2, q3, q4⟩ := hset _ 3 _ hG3 hT2 hgw2 hrs2; exact ⟨_, _, rfl, fun _ => (by decide), by omega, q1, q2, q3, q4⟩)
      · go_wp2_with (go_at_call 12; (with_reducible refine (HN.out _ 2 2 hT1 ?_ ?_ ?_).mono ?_); (· omega); (· omega); (· omega); rintro e w2 ⟨r, rfl, r1, r2, hg, hT2⟩; have hG3 := hG2.grown hg (fun e => by injection e with e; omega); have hgw2 := hgw1.grown hg (fun k hk => by injection hk with hk; omega); have hrs2 := hrs1.grown hg (fun e => by injection e with e; omega); have y1 := hG3.lt; have y2 := (hG3.2 2 _ rfl).1; have y3 := (hG3.2 2 _ rfl).2)
        all_goals go_meet
        all_goals first
          | (obtain ⟨q1, q2, q3, q4⟩ := hset _ 2 false hG2 hT1 hgw1 hrs1; exact ⟨_, _, rfl, fun e => (by cases e), by omega, q1, q2, q3, q4⟩)
          | (obtain ⟨q1, q2, q3, q4⟩ := hset _ 3 _ hG3 hT2 hgw2 hrs2; exact ⟨_, _, rfl, fun _ => (by decide), by omega, q1, q2, q3, q4⟩)
      · go_wp2_with (go_at_call 12; (with_reducible refine (HN.out _ 2 2 hT1 ?_ ?_ ?_).mono ?_); (· omega); (· omega); (· omega); rintro e w2 ⟨r, rfl, r1, r2, hg, hT2⟩; have hG3 := hG2.grown hg (fun e => by injection e with e; omega); have hgw2 := hgw1.grown hg (fun k hk => by injection hk with hk; omega); have hrs2 := hrs1.grown hg (fun e => by injection e with e; omega); have y1 := hG3.lt; have y2 := (hG3.2 2 _ rfl).1; have y3 := (hG3.2 2 _ rfl).2)
        all_goals go_meet
        all_goals first
          | (obtain ⟨q1, q2, q3, q4⟩ := hset _ 2 false hG2 hT1 hgw1 hrs1; exact ⟨_, _, rfl, fun e => (by cases e), by omega, q1, q2, q3, q4⟩)
          | (obtain ⟨q1, q2, q3, q4⟩ := hset _ 3 _ hG3 hT2 hgw2 hrs2; exact ⟨_, _, rfl, fun _ => (by decide), by omega, q1, q2, q3, q4⟩)
      · go_wp2_with (go_at_call 12; (with_reducible refine (HN.out _ 2 2 hT1 ?_ ?_ ?_).mono ?_); (· omega); (· omega); (· omega); rintro e w2 ⟨r, rfl, r1, r2, hg, hT2⟩; have hG3 := hG2.grown hg (fun e => by injection e with e; omega); have hgw2 := hgw1.grown hg (fun k hk => by injection hk with hk; omega); have hrs2 := hrs1.grown hg (fun e => by injection e with e; omega); have y1 := hG3.lt; have y2 := (hG3.2 2 _ rfl).1; have y3 := (hG3.2 2 _ rfl).2)
        all_goals go_meet
        all_goals first
          | (obtain ⟨q1, q2, q3, q4⟩ := hset _ 2 false hG2 hT1 hgw1 hrs1; exact ⟨_, _, rfl, fun e => (by cases e), by omega, q1, q2, q3, q4⟩)
          | (obtain ⟨q1, q2, q3, q4⟩ := hset _ 3 _ hG3 hT2 hgw2 hrs2; exact ⟨_, _, rfl, fun _ => (by decide), by omega, q1, q2, q3, q4⟩)
    case rest => as_aux_lemma =>
      obtain ⟨d, k, rfl, hd, hk, hT3, hG3, hgw3, hrs3⟩ := hcut
      have hxc := hG3.lt
      go_wp2_with (first
        | (go_at_call 12; (with_reducible refine (HN.out _ k 4 (hT3.gr ((Gr.refl wc).alloc _)) ?_ ?_ ?_).mono ?_); (· omega); (· omega); (· omega); rintro e w4 ⟨r4, rfl, r4l, r4h, hg4, hT4⟩; obtain ⟨rn, rfl⟩ : (∃ rn : Nat, r4 = rn) := ⟨r4.toNat, by omega⟩; have hat := (Cel.new wc #[.int .i64 0, .int .i64 1790, .int .i64 17970, .int .i64 100] 3).grown hg4 (fun e => by injection e with e; omega); have hatx := hat.lt; obtain ⟨av, hav0, hav1, hcell⟩ : (∃ av : Int, 0 ≤ av ∧ av ≤ 17970 ∧ w4.cell? ⟨wc.heap.size, rn, none⟩ = some (.int .i64 av)) := at_cell hat (by omega); have hG4 := (hG3.alloc (.cells #[.int .i64 0, .int .i64 1790, .int .i64 17970, .int .i64 100] 3)).grown hg4 (fun e => by injection e with e; omega); have hrs4 := (hrs3.alloc (.cells #[.int .i64 0, .int .i64 1790, .int .i64 17970, .int .i64 100] 3)).grown hg4 (fun e => by injection e with e; omega); have hgw4 := (hgw3.alloc (.cells #[.int .i64 0, .int .i64 1790, .int .i64 17970, .int .i64 100] 3)).grown hg4 (fun k hk => by injection hk with hk; omega))
        | (go_at_call 12; (with_reducible refine (HN.out _ (k + 1) 7 hT4 ?_ ?_ ?_).mono ?_); (· omega); (· omega); (· omega); rintro e w5 ⟨m, rfl, m1, m2, hg5, hT5⟩; have hG5 := hG4.grown hg5 (fun e => by injection e with e; omega); have hgw5 := hgw4.grown hg5 (fun k hk => by injection hk with hk; omega); have hrs5 := hrs4.grown hg5 (fun e => by injection e with e; omega)))
      clear hT3 hG3 hgw3 hT4 hG4 hgw4 hat hatx hcell hg4 hg5 hxc hT1 hG2 hgw1 hA hgw hrs1 hrs3 hrs4
      obtain ⟨lv, hlv⟩ : ∃ lv : List Value, [.string s, .int .i64 b, .bool d] = lv := ⟨_, rfl⟩
      have hGb := hG5.lt
      obtain ⟨base, hbase⟩ : ∃ base, w5.heap.size = base := ⟨_, rfl⟩
      have hL0 : Lp w T a cap xs G base [.string s, .int .i64 b, .bool d, .slice none 0 0] (.slice none 0 0) [] (k + 2) w5 := ⟨hgw5, hT5, hG5, World.ownsRow_nil _ _ _ _, hrs5⟩
      rw [hbase] at hGb
      have hGw : base ≤ w5.heap.size := by omega
      have HL : Hid (∀ (w' : World) (ev : Value) (es : List Ev) (k' : Nat) (n : Int), Lp w T a cap xs G base [.string s, .int .i64 b, .bool d, ev] ev es k' w' → k' ≤ 1000000 → 1 ≤ n → n ≤ 2147483647 → Calls Tryz.prog 12 #[.pointer (some ⟨T, 0, none⟩), .int .i64 n] w' fun e w'' => ∃ r : Int, e = .returned (.int .i64 r) ∧ 0 ≤ r ∧ r < n ∧ w'.grownBy w'' (some T) ∧ Lp w T a cap xs G base [.string s, .int .i64 b, .bool d, ev] ev es (k' + 1) w'') := fun w' ev es k' n h1 h2 h3 h4 => (HN.out w' k' n h1.tp h2 h3 h4).mono fun e w'' ⟨r, q1, q2, q3, q4, q5⟩ => ⟨r, q1, q2, q3, q4, h1.call q4 q5 hBT hG1 hGb⟩
      clear hT5 hG5 hgw5 hrs5 HN hlv lv hbase
      go_loopw [5, 6] (fun at_ n wr => ∃ (j kk : Nat) (av : Int) (es : List Ev) (ev : Value), n = .int .i64 j ∧ at_ = .int .i64 av ∧ 0 ≤ av ∧ av + 21 * j ≤ 18100 ∧ kk + 12 * j ≤ 100 ∧ es.length + j ≤ 6 ∧ base ≤ wr.heap.size ∧ Lp w T a cap xs G base [.string s, .int .i64 b, .bool d, ev] ev es kk wr ∧ Hid (EvM av es)) (fun _ n _ => (RowKit.intOf n).toNat)
      case atStart => exact ⟨m.toNat, k + 2, av, [], _, by rw [Int.toNat_of_nonneg m1], rfl, hav0, by omega, by omega, by simp; omega, hGw, hL0, Lib.hid ⟨rfl, hav0, fun e he => by cases he⟩⟩
      case round =>
        obtain ⟨j, kk, av, es, ev, rfl, rfl, hv0, hv1, hk1, hn1, hbw, hL, hM⟩ := hrel
        clear hL0
        by_cases g : 0 < j
        · have q1 : decide (0 < (j : Int)) = true := decide_eq_true (by omega)
          go_upto_if 51 with (go_at_call 12; (with_reducible refine (HL.out _ ev es kk 3 hL ?_ ?_ ?_).mono ?_); (· omega); (· omega); (· omega); rintro e w6 ⟨r6, rfl, r6l, r6h, hg6, hL6⟩)
          have hbw6 : base ≤ w6.heap.size := Nat.le_trans hbw (World.grownBy.size hg6)
          go_cut [5] (fun at2 wx => ∃ (av2 : Int) (k2 : Nat), at2 = .int .i64 av2 ∧ av ≤ av2 ∧ av2 ≤ av + 9 ∧ k2 ≤ kk + 2 ∧ base ≤ wx.heap.size ∧ Lp w T a cap xs G base [.string s, .int .i64 b, .bool d, ev] ev es k2 wx)
          case first => as_aux_lemma =>
            by_cases z : r6 = 0
            · have qz : (r6 == 0) = true := beq_iff_eq.2 z
              replace z := Lib.hid z
              go_wp2_with (go_at_call 12; (with_reducible refine (HL.out _ ev es (kk + 1) 9 hL6 ?_ ?_ ?_).mono ?_); (· omega); (· omega); (· omega); rintro e w7 ⟨r7, rfl, r7l, r7h, hg7, hL7⟩)
              go_meet
              exact ⟨av + (1 + r7), kk + 2, by rfl, by omega, by omega, by omega, Nat.le_trans hbw6 (World.grownBy.size hg7), hL7⟩
            · have qz : (r6 == 0) = false := beq_eq_false_iff_ne.2 z
              go_wp2
              go_meet
              exact ⟨av, kk + 1, rfl, by omega, by omega, by omega, hbw6, hL6⟩
          case rest => as_aux_lemma =>
            obtain ⟨av2, k2, rfl, ha1, ha2, hk2, hbw7, hL7⟩ := hcut
            clear hL hL6 hg6 hbw6 hbw
            go_upto_if 73 with (first
              | (go_at_call 12; (with_reducible refine (HL.out _ ev es k2 3 hL7 ?_ ?_ ?_).mono ?_); (· omega); (· omega); (· omega); rintro e w8 ⟨kd, rfl, kdl, kdh, hg8, hL8⟩)
              | (go_at_call 12; (with_reducible refine (HL.out _ ev es (k2 + 1) 12 hL8 ?_ ?_ ?_).mono ?_); (· omega); (· omega); (· omega); rintro e w9 ⟨mn, rfl, mnl, mnh, hg9, hL9⟩))
            obtain ⟨E, hE⟩ : ∃ E, w9.heap.size = E := ⟨_, rfl⟩
            have hTE : T < E := by have := hL9.tp.cel.lt; omega
            have hGE : G < E := by have := hL9.cel.lt; omega
            have hwE : w.heap.size < E := by omega
            have hW0 : T + 1 ≤ E := hTE
            have hevE : ev.ownBlock ≠ some E := fun h => by have := own_lt8 hL9.row _ h; omega
            have hbE : base ≤ E := by have := World.grownBy.size hg8; have := World.grownBy.size hg9; omega
            have hcE := Cel.new w9 #[.int .i64 kd, .int .i64 0, .int .i64 0, .string ⟨#[]⟩, .int .i64 0, .int .i64 0, .int .i64 av2, .int .i64 (av2 + (1 + mn))] 38
            have hLA := hL9.by ((Gr.refl w9).alloc (.cells #[.int .i64 kd, .int .i64 0, .int .i64 0, .string ⟨#[]⟩, .int .i64 0, .int .i64 0, .int .i64 av2, .int .i64 (av2 + (1 + mn))] 38))
            have hszA : E < (w9.alloc (.cells #[.int .i64 kd, .int .i64 0, .int .i64 0, .string ⟨#[]⟩, .int .i64 0, .int .i64 0, .int .i64 av2, .int .i64 (av2 + (1 + mn))] 38)).heap.size := by simp; omega
            rw [hE] at hcE ⊢
            clear hL7 hL8 hL9 hg8 hg9 hE
            generalize w9.alloc (.cells #[.int .i64 kd, .int .i64 0, .int .i64 0, .string ⟨#[]⟩, .int .i64 0, .int .i64 0, .int .i64 av2, .int .i64 (av2 + (1 + mn))] 38) = wA at *
            obtain ⟨M, hMv⟩ : ∃ M, av2 + (1 + mn) - av2 = M := ⟨_, rfl⟩
            obtain ⟨tq, htq⟩ : ∃ tq, av2 + (1 + mn) = tq := ⟨_, rfl⟩
            have hM1 : 1 ≤ M ∧ M ≤ 12 := by omega
            have htM : Hid (tq = av2 + M) := Lib.hid (by omega)
            rw [hMv]
            rw [htq] at hcE
            clear hMv htq mnl mnh
            go_cut [77] (fun _ wx => ∃ (fr : Int) (k3 : Nat), ((kd = 0 ∧ fr = 0) ∨ (kd ≠ 0 ∧ 1 ≤ fr ∧ fr ≤ M)) ∧ k3 ≤ k2 + 3 ∧ E < wx.heap.size ∧ Lp w T a cap xs G base [.string s, .int .i64 b, .bool d, ev] ev es k3 wx ∧ Cel wx E [.int .i64 kd, .int .i64 0, .int .i64 fr, .string ⟨#[]⟩, .int .i64 0, .int .i64 0, .int .i64 av2, .int .i64 tq])
            case first => as_aux_lemma =>
              by_cases z : kd = 0
              · have qz : (kd != 0) = false := by rw [z]; rfl
                have z' := Lib.hid z
                clear z
                go_wp2
                go_meet
                exact ⟨0, k2 + 2, .inl ⟨z'.out, rfl⟩, by omega, hszA, hLA, hcE⟩
              · have qz : (kd != 0) = true := bne_iff_ne.2 z
                go_wp2_with (go_at_call 12; (with_reducible refine (HL.out _ ev es (k2 + 1 + 1) M hLA ?_ ?_ ?_).mono ?_); (· omega); (· omega); (· omega); rintro e wB ⟨r, rfl, rl, rh, hg, hLB⟩; have hcB := hcE.grown hg (fun e => by injection e with e; omega); have x1 := hcB.lt; obtain ⟨x2, x3⟩ := hcB.2 2 _ rfl)
                go_meet
                have hcC := hcB.set (k := 2) (by simp) (.int .i64 (1 + r))
                simp only [List.set_cons_succ, List.set_cons_zero] at hcC
                exact ⟨1 + r, k2 + 3, .inr ⟨z, by omega, by omega⟩, by omega, by simp [World.setCell]; omega, hLB.set hB (by simp; omega) hwE hGE hTE hevE 2 _, hcC⟩
            case rest => as_aux_lemma =>
              obtain ⟨fr, k3, hfr, hk3, hszB, hLB, hcB⟩ := hcut
              clear hLA hcE hszA
              have b0 := (hcB.2 0 _ rfl).1
              go_upto_if 81 with fail
              go_cut [83] (fun _ wx => ∃ (p : Int) (k4 : Nat), ((kd = 2 ∧ 0 ≤ p ∧ p ≤ 3) ∨ (kd ≠ 2 ∧ p = 0)) ∧ k4 ≤ k2 + 4 ∧ E < wx.heap.size ∧ Lp w T a cap xs G base [.string s, .int .i64 b, .bool d, ev] ev es k4 wx ∧ Cel wx E [.int .i64 kd, .int .i64 p, .int .i64 fr, .string ⟨#[]⟩, .int .i64 0, .int .i64 0, .int .i64 av2, .int .i64 tq])
              case first => as_aux_lemma =>
                by_cases z : kd = 2
                · have qz : (kd == 2) = true := beq_iff_eq.2 z
                  have z' := Lib.hid z
                  clear z
                  go_wp2_with (go_at_call 12; (with_reducible refine (HL.out _ ev es k3 4 hLB ?_ ?_ ?_).mono ?_); (· omega); (· omega); (· omega); rintro e wB ⟨r, rfl, rl, rh, hg, hLC⟩; have hcC := hcB.grown hg (fun e => by injection e with e; omega); have x1 := hcC.lt; obtain ⟨x2, x3⟩ := hcC.2 1 _ rfl)
                  go_meet
                  have hcD := hcC.set (k := 1) (by simp) (.int .i64 r)
                  simp only [List.set_cons_succ, List.set_cons_zero] at hcD
                  exact ⟨r, k3 + 1, .inl ⟨z'.out, by omega, by omega⟩, by omega, by simp [World.setCell]; omega, hLC.set hB (by simp; omega) hwE hGE hTE hevE 1 _, hcD⟩
                · have qz : (kd == 2) = false := beq_eq_false_iff_ne.2 z
                  go_wp2
                  go_meet
                  exact ⟨0, k3, .inr ⟨z, rfl⟩, by omega, hszB, hLB, hcB⟩
              case rest => as_aux_lemma =>
                obtain ⟨p, k4, hp, hk4, hszC, hLC, hcC⟩ := hcut
                clear hLB hcB hszB b0
                go_upto_if 87 with (go_at_call 12; (with_reducible refine (HL.out _ ev es k4 5 hLC ?_ ?_ ?_).mono ?_); (· omega); (· omega); (· omega); rintro e wD ⟨r5, rfl, r5l, r5h, hg5, hLD⟩)
                have hcD := hcC.grown hg5 (fun e => by injection e with e; omega)
                have hszD : E < wD.heap.size := Nat.lt_of_lt_of_le hszC (World.grownBy.size hg5)
                clear hLC hcC hszC hg5
                go_cut [95] (fun _ wx => ∃ (reel : ByteArray) (i o : Int) (k5 : Nat), ((reel.size = 0 ∧ i = 0 ∧ o = 0) ∨ (reel ∈ reelsL ∧ 0 ≤ i ∧ i ≤ 2000 + 12 * es.length ∧ o = i + M)) ∧ k5 ≤ k2 + 9 ∧ E < wx.heap.size ∧ Lp w T a cap xs G base [.string s, .int .i64 b, .bool d, ev] ev es k5 wx ∧ Cel wx E [.int .i64 kd, .int .i64 p, .int .i64 fr, .string reel, .int .i64 i, .int .i64 o, .int .i64 av2, .int .i64 tq])
                case first => as_aux_lemma =>
                  by_cases z : 0 < r5
                  · have qz : decide (0 < r5) = true := decide_eq_true z
                    have hAr := Cel.new wD #[.string ⟨#[97]⟩, .string ⟨#[109, 49]⟩, .string ⟨#[116, 97, 112, 101, 95, 55]⟩] 9
                    have hLa := hLD.by ((Gr.refl wD).alloc (.cells #[.string ⟨#[97]⟩, .string ⟨#[109, 49]⟩, .string ⟨#[116, 97, 112, 101, 95, 55]⟩] 9))
                    have hca := hcD.gr ((Gr.refl wD).alloc (.cells #[.string ⟨#[97]⟩, .string ⟨#[109, 49]⟩, .string ⟨#[116, 97, 112, 101, 95, 55]⟩] 9))
                    have hTD : T < wD.heap.size := hLD.tp.cel.lt
                    go_upto_region 19 with (first
                      | (go_at_call 12; (with_reducible refine (HL.out _ ev es (k4 + 1) 3 hLa ?_ ?_ ?_).mono ?_); (· omega); (· omega); (· omega); rintro e wF ⟨r3, rfl, r3l, r3h, hg6, hLF⟩; obtain ⟨rn, rfl⟩ : (∃ rn : Nat, r3 = rn) := ⟨r3.toNat, by omega⟩; have hAf := hAr.grown hg6 (fun e => by injection e with e; omega); have hAx := hAf.lt; obtain ⟨reel, hreel, hcell⟩ := reel_cell (rn := rn) hAf (by omega); have hcF := hca.grown hg6 (fun e => by injection e with e; omega); have hFx := hcF.lt; obtain ⟨hF3, hF3'⟩ := hcF.2 3 _ rfl; have hLFs := hLF.set hB (by simp; omega) hwE hGE hTE hevE 3 (.string reel); have hcFs := hcF.set (k := 3) (by simp) (.string reel); (simp only [List.set_cons_succ, List.set_cons_zero] at hcFs))
                      | (go_at_call 12; (with_reducible refine (HL.out _ ev es (k4 + 2) 2000 hLFs ?_ ?_ ?_).mono ?_); (· omega); (· omega); (· omega); rintro e wG ⟨ri, rfl, ril, rih, hg7, hLG⟩; have hcG := hcFs.grown hg7 (fun e => by injection e with e; omega); have hGx := hcG.lt; obtain ⟨hG4, hG4'⟩ := hcG.2 4 _ rfl; have hLGs := hLG.set hB (by simp; omega) hwE hGE hTE hevE 4 (.int .i64 ri); have hcGs := hcG.set (k := 4) (by simp) (.int .i64 ri); (simp only [List.set_cons_succ, List.set_cons_zero] at hcGs)))
                    clear hLD hcD hszD hLa hca hAr hAf hAx hcell hcF hF3 hF3' hFx hLF hcFs hLFs hLG hcG hG4 hG4' hg6 hg7 hTD
                    replace hGx : E < (wG.setCell ⟨E, 4, none⟩ (.int .i64 ri)).heap.size := by simp [World.setCell]; omega
                    generalize wG.setCell ⟨E, 4, none⟩ (.int .i64 ri) = wH at *
                    obtain ⟨pv, cv, rfl⟩ := own_shape hLGs.row
                    have zx := hLGs.cel.lt
                    have z3 := (hLGs.cel.2 3 _ rfl).1
                    have y3 := (hcGs.2 3 _ rfl).1
                    obtain ⟨y4, f4⟩ := hcGs.2 4 _ rfl
                    obtain ⟨y5, f5⟩ := hcGs.2 5 _ rfl
                    go_upto_region 20 with fail
                    by_cases hn : es.length = 0
                    · have qn : decide (0 < (es.length : Int)) = false := decide_eq_false (by omega)
                      refine wp_region_gr_tail 15 (by kernel_rfl) (by kernel_rfl) (fun hq1 hq2 => ?_)
                      simp only [List.take_succ_cons, List.take_zero, List.drop_succ_cons, List.drop_zero]
                      repeat (first | go_big_quiet_skip | (go_big_quiet_want; go_big_quiet_op; first | go_big_quiet_on | (apply Exists.intro; refine ⟨fun _ => ?_, ?_⟩; (· (fail)); go_big_quiet_on)))
                      refine wpQuiet_nil ?_
                      clear hq1 hq2
                      rintro w8 ⟨⟨_, hg8⟩, rfl⟩
                      obtain ⟨hc8, hf8⟩ := hg8.cells
                      have hz8 := hg8.size
                      (try simp at hz8); (try have hl8_0_0 : w.heap.size < w8.heap.size := by omega); (try have hm8_0_0 : w.heap.size ≤ w8.heap.size := by omega); (try have hl8_0_1 : w.heap.size + 1 < w8.heap.size := by omega); (try have hl8_0_2 : w.heap.size + 2 < w8.heap.size := by omega); (try have hl8_1_0 : w1.heap.size < w8.heap.size := by omega); (try have hm8_1_0 : w1.heap.size ≤ w8.heap.size := by omega); (try have hl8_1_1 : w1.heap.size + 1 < w8.heap.size := by omega); (try have hl8_1_2 : w1.heap.size + 2 < w8.heap.size := by omega); (try have hl8_2_0 : w2.heap.size < w8.heap.size := by omega); (try have hm8_2_0 : w2.heap.size ≤ w8.heap.size := by omega); (try have hl8_2_1 : w2.heap.size + 1 < w8.heap.size := by omega); (try have hl8_2_2 : w2.heap.size + 2 < w8.heap.size := by omega); (try have hl8_3_0 : w3.heap.size < w8.heap.size := by omega); (try have hm8_3_0 : w3.heap.size ≤ w8.heap.size := by omega); (try have hl8_3_1 : w3.heap.size + 1 < w8.heap.size := by omega); (try have hl8_3_2 : w3.heap.size + 2 < w8.heap.size := by omega); (try have hl8_4_0 : w4.heap.size < w8.heap.size := by omega); (try have hm8_4_0 : w4.heap.size ≤ w8.heap.size := by omega); (try have hl8_4_1 : w4.heap.size + 1 < w8.heap.size := by omega); (try have hl8_4_2 : w4.heap.size + 2 < w8.heap.size := by omega); (try have hl8_5_0 : w5.heap.size < w8.heap.size := by omega); (try have hm8_5_0 : w5.heap.size ≤ w8.heap.size := by omega); (try have hl8_5_1 : w5.heap.size + 1 < w8.heap.size := by omega); (try have hl8_5_2 : w5.heap.size + 2 < w8.heap.size := by omega); (try have hl8_6_0 : w6.heap.size < w8.heap.size := by omega); (try have hm8_6_0 : w6.heap.size ≤ w8.heap.size := by omega); (try have hl8_6_1 : w6.heap.size + 1 < w8.heap.size := by omega); (try have hl8_6_2 : w6.heap.size + 2 < w8.heap.size := by omega); (try have hl8_7_0 : w7.heap.size < w8.heap.size := by omega); (try have hm8_7_0 : w7.heap.size ≤ w8.heap.size := by omega); (try have hl8_7_1 : w7.heap.size + 1 < w8.heap.size := by omega); (try have hl8_7_2 : w7.heap.size + 2 < w8.heap.size := by omega)
                      have hc8' := hcGs.gr hg8
                      have hL8 := hLGs.by hg8
                      obtain ⟨a4, b4⟩ := hc8'.2 4 _ rfl
                      obtain ⟨a5, b5⟩ := hc8'.2 5 _ rfl
                      have a6 := hc8'.lt
                      clear hcGs hLGs hg8 hc8 hf8 y3 y4 y5 f4 f5
                      go_wp2
                      go_meet
                      have hcE := hc8'.set (k := 5) (by simp) (.int .i64 (ri + M))
                      simp only [List.set_cons_succ, List.set_cons_zero] at hcE
                      exact ⟨reel, ri, ri + M, k4 + 2 + 1, .inr ⟨hreel, by omega, by omega, rfl⟩, by omega, by simp [World.setCell]; omega, hL8.set hB (by simp; omega) hwE hGE hTE hevE 5 _, hcE⟩
                    · obtain ⟨m', hm'⟩ : ∃ m', es.length = m' + 1 := ⟨es.length - 1, by omega⟩
                      have hmlt : m' < es.length := by omega
                      obtain ⟨rb, ro, rfl⟩ := hLGs.addr hmlt
                      obtain ⟨l1, l2, l3⟩ := hLGs.last hmlt
                      have hlo := hM.out.2.2 _ (List.getElem_mem hmlt)
                      have hln := vEvs_o hM.out.1 (Int.le_refl 0) _ (List.getElem_mem hmlt)
                      have hlast : Hid (∀ (kk : Nat) (wx : World), Lp w T a cap xs G base [.string s, .int .i64 b, .bool d, .slice (some ⟨rb, ro, none⟩) es.length cv] (.slice (some ⟨rb, ro, none⟩) es.length cv) es kk wx → wx.cell? ⟨rb, ro + m' * 8 + 3, none⟩ = some (.string es[m'].reel) ∧ wx.cell? ⟨rb, ro + m' * 8 + 5, none⟩ = some (.int .i64 es[m'].o) ∧ rb < wx.heap.size) := Lib.hid fun kk wx h => h.last hmlt
                      generalize es[m'] = lst at l1 l2 hlo hln hlast
                      have hnz : Hid (es.length ≠ 0) := Lib.hid hn
                      have z3' : wH.cell? ⟨G, 3, none⟩ = some (.slice (some ⟨rb, ro, none⟩) (m' + 1) cv) := by rw [← hm']; exact z3
                      have z4' : ∀ (kk : Nat) (wx : World), Lp w T a cap xs G base [.string s, .int .i64 b, .bool d, .slice (some ⟨rb, ro, none⟩) es.length cv] (.slice (some ⟨rb, ro, none⟩) es.length cv) es kk wx → wx.cell? ⟨G, 3, none⟩ = some (.slice (some ⟨rb, ro, none⟩) (m' + 1) cv) := fun kk wx h => by rw [← hm']; exact (h.cel.2 3 _ rfl).1
                      have z4' := Lib.hid z4'
                      clear z3 hn
                      have qn : decide (0 < ((m' + 1 : Nat) : Int)) = true := decide_eq_true (by omega)
                      simp only [hm']
                      have hm' := Lib.hid hm'
                      have hlo := Lib.hid hlo
                      cases qe : (lst.reel.toList == reel.toList) with
                      | false =>
                        refine wp_region_gr_tail 15 (by kernel_rfl) (by kernel_rfl) (fun hq1 hq2 => ?_)
                        simp only [List.take_succ_cons, List.take_zero, List.drop_succ_cons, List.drop_zero]
                        repeat (first | go_big_quiet_skip | (go_big_quiet_want; go_big_quiet_op; first | go_big_quiet_on | (apply Exists.intro; refine ⟨fun _ => ?_, ?_⟩; (· (fail)); go_big_quiet_on)))
                        refine wpQuiet_nil ?_
                        clear hq1 hq2
                        rintro w8 ⟨⟨_, hg8⟩, rfl⟩
                        obtain ⟨hc8, hf8⟩ := hg8.cells
                        have hz8 := hg8.size
                        (try simp at hz8); (try have hl8_0_0 : w.heap.size < w8.heap.size := by omega); (try have hm8_0_0 : w.heap.size ≤ w8.heap.size := by omega); (try have hl8_0_1 : w.heap.size + 1 < w8.heap.size := by omega); (try have hl8_0_2 : w.heap.size + 2 < w8.heap.size := by omega); (try have hl8_1_0 : w1.heap.size < w8.heap.size := by omega); (try have hm8_1_0 : w1.heap.size ≤ w8.heap.size := by omega); (try have hl8_1_1 : w1.heap.size + 1 < w8.heap.size := by omega); (try have hl8_1_2 : w1.heap.size + 2 < w8.heap.size := by omega); (try have hl8_2_0 : w2.heap.size < w8.heap.size := by omega); (try have hm8_2_0 : w2.heap.size ≤ w8.heap.size := by omega); (try have hl8_2_1 : w2.heap.size + 1 < w8.heap.size := by omega); (try have hl8_2_2 : w2.heap.size + 2 < w8.heap.size := by omega); (try have hl8_3_0 : w3.heap.size < w8.heap.size := by omega); (try have hm8_3_0 : w3.heap.size ≤ w8.heap.size := by omega); (try have hl8_3_1 : w3.heap.size + 1 < w8.heap.size := by omega); (try have hl8_3_2 : w3.heap.size + 2 < w8.heap.size := by omega); (try have hl8_4_0 : w4.heap.size < w8.heap.size := by omega); (try have hm8_4_0 : w4.heap.size ≤ w8.heap.size := by omega); (try have hl8_4_1 : w4.heap.size + 1 < w8.heap.size := by omega); (try have hl8_4_2 : w4.heap.size + 2 < w8.heap.size := by omega); (try have hl8_5_0 : w5.heap.size < w8.heap.size := by omega); (try have hm8_5_0 : w5.heap.size ≤ w8.heap.size := by omega); (try have hl8_5_1 : w5.heap.size + 1 < w8.heap.size := by omega); (try have hl8_5_2 : w5.heap.size + 2 < w8.heap.size := by omega); (try have hl8_6_0 : w6.heap.size < w8.heap.size := by omega); (try have hm8_6_0 : w6.heap.size ≤ w8.heap.size := by omega); (try have hl8_6_1 : w6.heap.size + 1 < w8.heap.size := by omega); (try have hl8_6_2 : w6.heap.size + 2 < w8.heap.size := by omega); (try have hl8_7_0 : w7.heap.size < w8.heap.size := by omega); (try have hm8_7_0 : w7.heap.size ≤ w8.heap.size := by omega); (try have hl8_7_1 : w7.heap.size + 1 < w8.heap.size := by omega); (try have hl8_7_2 : w7.heap.size + 2 < w8.heap.size := by omega)
                        have hc8' := hcGs.gr hg8
                        have hL8 := hLGs.by hg8
                        obtain ⟨a4, b4⟩ := hc8'.2 4 _ rfl
                        obtain ⟨a5, b5⟩ := hc8'.2 5 _ rfl
                        have a6 := hc8'.lt
                        clear hcGs hLGs hg8 hc8 hf8 y3 y4 y5 f4 f5
                        go_wp2
                        go_meet
                        have hcE := hc8'.set (k := 5) (by simp) (.int .i64 (ri + M))
                        simp only [List.set_cons_succ, List.set_cons_zero] at hcE
                        exact ⟨reel, ri, ri + M, k4 + 2 + 1, .inr ⟨hreel, by omega, by omega, rfl⟩, by omega, by simp [World.setCell]; omega, hL8.set hB (by simp; omega) hwE hGE hTE hevE 5 _, hcE⟩
                      | true =>
                        refine wp_region_gr_tail 15 (by kernel_rfl) (by kernel_rfl) (fun hq1 hq2 => ?_)
                        simp only [List.take_succ_cons, List.take_zero, List.drop_succ_cons, List.drop_zero]
                        repeat (first | go_big_quiet_skip | (go_big_quiet_want; go_big_quiet_op; first | go_big_quiet_on | (apply Exists.intro; refine ⟨fun _ => ?_, ?_⟩; (· (fail)); go_big_quiet_on)))
                        refine wpQuiet_nil ?_
                        clear hq1 hq2
                        rintro w8 ⟨⟨_, hg8⟩, rfl⟩
                        obtain ⟨hc8, hf8⟩ := hg8.cells
                        have hz8 := hg8.size
                        (try simp at hz8); (try have hl8_0_0 : w.heap.size < w8.heap.size := by omega); (try have hm8_0_0 : w.heap.size ≤ w8.heap.size := by omega); (try have hl8_0_1 : w.heap.size + 1 < w8.heap.size := by omega); (try have hl8_0_2 : w.heap.size + 2 < w8.heap.size := by omega); (try have hl8_1_0 : w1.heap.size < w8.heap.size := by omega); (try have hm8_1_0 : w1.heap.size ≤ w8.heap.size := by omega); (try have hl8_1_1 : w1.heap.size + 1 < w8.heap.size := by omega); (try have hl8_1_2 : w1.heap.size + 2 < w8.heap.size := by omega); (try have hl8_2_0 : w2.heap.size < w8.heap.size := by omega); (try have hm8_2_0 : w2.heap.size ≤ w8.heap.size := by omega); (try have hl8_2_1 : w2.heap.size + 1 < w8.heap.size := by omega); (try have hl8_2_2 : w2.heap.size + 2 < w8.heap.size := by omega); (try have hl8_3_0 : w3.heap.size < w8.heap.size := by omega); (try have hm8_3_0 : w3.heap.size ≤ w8.heap.size := by omega); (try have hl8_3_1 : w3.heap.size + 1 < w8.heap.size := by omega); (try have hl8_3_2 : w3.heap.size + 2 < w8.heap.size := by omega); (try have hl8_4_0 : w4.heap.size < w8.heap.size := by omega); (try have hm8_4_0 : w4.heap.size ≤ w8.heap.size := by omega); (try have hl8_4_1 : w4.heap.size + 1 < w8.heap.size := by omega); (try have hl8_4_2 : w4.heap.size + 2 < w8.heap.size := by omega); (try have hl8_5_0 : w5.heap.size < w8.heap.size := by omega); (try have hm8_5_0 : w5.heap.size ≤ w8.heap.size := by omega); (try have hl8_5_1 : w5.heap.size + 1 < w8.heap.size := by omega); (try have hl8_5_2 : w5.heap.size + 2 < w8.heap.size := by omega); (try have hl8_6_0 : w6.heap.size < w8.heap.size := by omega); (try have hm8_6_0 : w6.heap.size ≤ w8.heap.size := by omega); (try have hl8_6_1 : w6.heap.size + 1 < w8.heap.size := by omega); (try have hl8_6_2 : w6.heap.size + 2 < w8.heap.size := by omega); (try have hl8_7_0 : w7.heap.size < w8.heap.size := by omega); (try have hm8_7_0 : w7.heap.size ≤ w8.heap.size := by omega); (try have hl8_7_1 : w7.heap.size + 1 < w8.heap.size := by omega); (try have hl8_7_2 : w7.heap.size + 2 < w8.heap.size := by omega)
                        have hc8' := hcGs.gr hg8
                        have hL8 := hLGs.by hg8
                        clear hcGs hLGs hg8 hc8 hf8 y3 y4 y5 f4 f5
                        go_wp2_with (go_at_call 12; (with_reducible refine (HL.out _ _ es (k4 + 2 + 1) 2 hL8 ?_ ?_ ?_).mono ?_); (· omega); (· omega); (· omega); rintro e w9 ⟨r9, rfl, r9l, r9h, hg9, hL9⟩; have hc9 := hc8'.grown hg9 (fun e => by injection e with e; omega); have a6 := hc9.lt; obtain ⟨a4, b4⟩ := hc9.2 4 _ rfl; obtain ⟨a5, b5⟩ := hc9.2 5 _ rfl; obtain ⟨v1, v2, v3⟩ := hlast.out _ _ hL9; have v4 := z4'.out _ _ hL9; have v5 := hL9.cel.lt)
                        all_goals go_meet
                        all_goals first
                          | (
                             have hlo := hlo.out
                             have hcD := hc9.set (k := 4) (by simp) (.int .i64 lst.o)
                             simp only [List.set_cons_succ, List.set_cons_zero] at hcD
                             have hcE := hcD.set (k := 5) (by simp) (.int .i64 (lst.o + M))
                             simp only [List.set_cons_succ, List.set_cons_zero] at hcE
                             exact ⟨reel, lst.o, lst.o + M, k4 + 2 + 1 + 1, .inr ⟨hreel, by omega, by omega, rfl⟩, by omega, by simp [World.setCell]; omega, (hL9.set hB (by simp; omega) hwE hGE hTE hevE 4 _).set hB (by simp; omega) hwE hGE hTE hevE 5 _, hcE⟩
                            )
                          | (
                             have hcE := hc9.set (k := 5) (by simp) (.int .i64 (ri + M))
                             simp only [List.set_cons_succ, List.set_cons_zero] at hcE
                             exact ⟨reel, ri, ri + M, k4 + 2 + 1 + 1, .inr ⟨hreel, by omega, by omega, rfl⟩, by omega, by simp [World.setCell]; omega, hL9.set hB (by simp; omega) hwE hGE hTE hevE 5 _, hcE⟩
                            )
                  · have qz : decide (0 < r5) = false := decide_eq_false z
                    go_wp2
                    go_meet
                    exact ⟨⟨#[]⟩, 0, 0, k4 + 1, .inl ⟨rfl, rfl, rfl⟩, by omega, hszD, hLD, hcD⟩
                case rest => as_aux_lemma =>
                  obtain ⟨reel, i, o, k5, hri, hk5, hszF, hLF, hcF⟩ := hcut
                  clear hLD hcD hszD
                  obtain ⟨pv, cv, rfl⟩ := own_shape hLF.row
                  obtain ⟨ic, hic, hic0, hic1, hic2⟩ := info_parts infoEv
                  have z3 := (hLF.cel.2 3 _ rfl).1
                  have zx := hLF.cel.lt
                  go_upto_region 23 with fail
                  go_cut [137] (fun _ wx => ∃ v9, E < wx.heap.size ∧ Lp w T a cap xs G base [.string s, .int .i64 b, .bool d, v9] v9 (es ++ [⟨kd, p, fr, reel, i, o, av2, tq⟩]) k5 wx ∧ Cel wx E [.int .i64 kd, .int .i64 p, .int .i64 fr, .string reel, .int .i64 i, .int .i64 o, .int .i64 av2, .int .i64 tq])
                  case first => as_aux_lemma =>
                    have hbs : base ≤ wc.heap.size := by omega
                    have hn63 : es.length + 1 ≤ 7 := by omega
                    clear hfr hp hri htM hM1 hM HL hk5 hk4 hk3 ha1 hv0 hv1 hk1 hn1
                    obtain ⟨k8, hk8⟩ : ∃ k8, 8 = k8 := ⟨_, rfl⟩
                    obtain ⟨ll, hll⟩ : ∃ ll : List Value, [.int .i64 kd, .int .i64 p, .int .i64 fr, .string reel, .int .i64 i, .int .i64 o, .int .i64 av2, .int .i64 tq] = ll := ⟨_, rfl⟩
                    have aE8 : ∀ w, (isAgg 38).run Tryz.prog w = .ok true w := Tryz.isAgg38
                    have zE8 : ∀ w, (Go.sizeOf 38).run Tryz.prog w = .ok k8 w := fun w => by rw [← hk8]; exact Tryz.sizeOf38 w
                    have hk0 : ¬ k8 = 0 := by omega
                    have hl8 : ll.length = 8 := by rw [← hll]; rfl
                    have hlk : ll.length = k8 := by rw [hl8, hk8]
                    have hcl : Cel wc E ll := by rw [← hll]; exact hcF
                    have hone : ∀ v ∈ ll, v.oneCell' = true := fun v hv => by
                      rw [← hll] at hv
                      simp only [List.mem_cons, List.not_mem_nil, or_false] at hv
                      rcases hv with rfl | rfl | rfl | rfl | rfl | rfl | rfl | rfl <;> rfl
                    have la := ld_cel (P := Tryz.prog) hlk hcl
                    replace hll := Lib.hid hll
                    replace hk8 := Lib.hid hk8
                    have hLG := hLF.by ((Gr.refl wc).alloc (.cells ll.toArray 38))
                    have hcG := hcF.gr ((Gr.refl wc).alloc (.cells ll.toArray 38))
                    have hge := own_ge hLF.row
                    clear hlk hcl
                    go_wp2_with (first
                      | (refine wpList_bs1 rfl 23 38 (.tmp 134) rfl 8 (by kernel_rfl) (by kernel_rfl) (by omega) (by omega) ll hl8 rfl ?_)
                      | (at_builtin; go_loud (refine wpList_append_rd rfl (.tmp 133) (.tmp 135) 23 rfl base 38 ic (.agg #[.int .i64 0, .int .i64 0, .int .i64 0, .string ⟨#[]⟩, .int .i64 0, .int .i64 0, .int .i64 0, .int .i64 0]) 8 72 (by kernel_rfl) hic hic0 hic1 hic2 rfl (by decide) (.slice pv es.length cv) es.length (eflat es) rfl hLG.row _ 1 ll rfl (Rd.new wc ll.toArray 38 1 8 1 (by simpa using hl8)) hone ?_ ?_ ?_ ?_); (· unfold maxLen; omega); (· omega); (· simp <;> omega); intro v9 w9' hown9 hgrow9; obtain ⟨p9, c9, rfl⟩ := own_shape hown9; have hc9 := hLG.cel.grown hgrow9 (fun e => by have := hge _ e; omega); obtain ⟨x3, xf3⟩ := hc9.2 3 _ rfl; have xl := hc9.lt; have hE9 := hcG.grown hgrow9 hevE; have xe := hE9.lt))
                    go_meet
                    rw [← hll.out] at hown9
                    exact ⟨_, by simp [World.setCell]; omega, Lp.push (e := ⟨kd, p, fr, reel, i, o, av2, tq⟩) hLG hB (by simp; omega) hBT hG1 hGb hown9 hgrow9, hE9.other (p := ⟨G, 3, none⟩) (by simp; omega) _⟩
                  case rest => as_aux_lemma =>
                  obtain ⟨v9, hszG, hLS, hcS⟩ := hcut
                  have xe := hcS.lt
                  have xt := (hcS.2 7 _ rfl).1
                  clear hLF hcF z3 zx
                  go_wp2
                  have e1 : ((j : Int) - 1) = ((j - 1 : Nat) : Int) := by omega
                  have htM := htM.out
                  have c1 : 0 ≤ tq := by clear hfr hp hri hd HL; omega
                  have c2 : tq + 21 * ((j - 1 : Nat) : Int) ≤ 18100 := by clear hfr hp hri hd HL; omega
                  have c3 : k5 + 12 * (j - 1) ≤ 100 := by clear hfr hp hri hd HL; omega
                  have c4 : (es ++ [(⟨kd, p, fr, reel, i, o, av2, tq⟩ : Ev)]).length + (j - 1) ≤ 6 := by clear hfr hp hri hd HL; rw [List.length_append, List.length_singleton]; omega
                  have c5 : base ≤ wc.heap.size := by clear hfr hp hri hd HL; omega
                  have c6 : tq < 20000 ∧ 0 ≤ av2 ∧ es.length ≤ 6 := by clear hfr hp hri hd HL; omega
                  have c7 := hM.out.snoc ha1 kdl kdh ⟨hM1.1, hM1.2, htM⟩ c6.1 c6.2.1 c6.2.2 hfr hp hri
                  clear hfr hp hri hd HL
                  refine ⟨⟨j - 1, k5, tq, es ++ [⟨kd, p, fr, reel, i, o, av2, tq⟩], _, by rw [e1], rfl, c1, c2, c3, c4, c5, hLS, Lib.hid c7⟩, by simp [RowKit.intOf]; omega⟩
        · have q1 : decide (0 < (j : Int)) = false := decide_eq_false (by omega)
          obtain ⟨pv, cv, rfl⟩ := own_shape hL.row
          have hcx := hL.cel.lt
          have c0 := (hL.cel.2 0 _ rfl).1
          have c1 := (hL.cel.2 1 _ rfl).1
          have c2 := (hL.cel.2 2 _ rfl).1
          have c3 := (hL.cel.2 3 _ rfl).1
          have hrx := hL.res.lt
          obtain ⟨e0, f0⟩ := hL.res.2 0 _ rfl
          obtain ⟨e1, f1⟩ := hL.res.2 1 _ rfl
          obtain ⟨e2, f2⟩ := hL.res.2 2 _ rfl
          obtain ⟨e3, f3⟩ := hL.res.2 3 _ rfl
          go_wp2
          have hk := (((hL.res.set (k := 0) (by simp) (.string s)).set (k := 1) (by simp) (.int .i64 b)).set (k := 2) (by simp) (.bool d)).set (k := 3) (by simp) (.slice pv es.length cv)
          simp only [List.set_cons_succ, List.set_cons_zero] at hk
          have hgr : wr.grownBy ((((wr.setCell ⟨w.heap.size, 0, none⟩ (.string s)).setCell ⟨w.heap.size, 1, none⟩ (.int .i64 b)).setCell ⟨w.heap.size, 2, none⟩ (.bool d)).setCell ⟨w.heap.size, 3, none⟩ (.slice pv es.length cv)) (some w.heap.size) :=
            grown_trans (grown_trans (grown_trans (grown_setCell wr ⟨w.heap.size, 0, none⟩ (.string s)) (grown_setCell _ ⟨w.heap.size, 1, none⟩ (.int .i64 b))) (grown_setCell _ ⟨w.heap.size, 2, none⟩ (.bool d))) (grown_setCell _ ⟨w.heap.size, 3, none⟩ (.slice pv es.length cv))
          have hrow := World.ownsRow.kept hL.row hgr (.inr (fun e => by have := own_ge hL.row _ e; omega))
          have hge := hL.gr.grown hgr (fun k hk => by injection hk with hk; omega)
          have y0 := (hk.2 0 _ rfl).1
          have y1 := (hk.2 1 _ rfl).1
          have y2 := (hk.2 2 _ rfl).1
          have y3 := (hk.2 3 _ rfl).1
          clear hk hgr
          generalize (((wr.setCell ⟨w.heap.size, 0, none⟩ (.string s)).setCell ⟨w.heap.size, 1, none⟩ (.int .i64 b)).setCell ⟨w.heap.size, 2, none⟩ (.bool d)).setCell ⟨w.heap.size, 3, none⟩ (.slice pv es.length cv) = Z at *
          have hEl : ElR Z (.slice pv es.length cv) ⟨s, b, d, es⟩ := by
            refine ⟨Rd.own hrow, ?_, ?_, by simp only; omega⟩
            · have h5 : ∀ s ∈ titlesL, s.size ≤ 140737488355328 := by decide +kernel
              exact h5 s hs
            · intro e he
              have h5 : ∀ s ∈ reelsL, s.size ≤ 140737488355328 := by decide +kernel
              rcases (hM.out.2.2 e he).2 with h | h
              · omega
              · exact h5 _ h
          have hMd : MadeE ⟨s, b, d, es⟩ := ⟨hs, hb, hd, by simp only; omega, hM.out.1, fun e he => by
            have := (hM.out.2.2 e he).1
            exact ⟨by simp only at he; omega, (hM.out.2.2 e he).2⟩⟩
          have hbs : w.heap.size < base := by omega
          simp [bodyPost, results, Tryz.results4, go_sem, y0, y1, y2, y3]
          refine ⟨⟨s, b, d, es⟩, .slice pv es.length cv, rfl, hge, ?_⟩
          first
            | exact ⟨hEl, ⟨base, hrow, hbs⟩, hMd⟩
            | exact ⟨hEl, base, hrow, hbs, hMd⟩
            | exact ⟨hEl, ⟨⟨base, hrow, hbs⟩, hMd⟩⟩
end Go.Proofs.YtnginfangeikpaaGreatDoor
