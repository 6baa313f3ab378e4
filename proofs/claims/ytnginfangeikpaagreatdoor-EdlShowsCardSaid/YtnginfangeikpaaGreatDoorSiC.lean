/-
  Contract of (catalogue).complete of package timeline at the law's project.
  Conditions: the clips are of the catalogue's media.
-/
import Derived.Test.YtnginfangeikpaaGreatDoorShY
namespace Go.Proofs.YtnginfangeikpaaGreatDoor
open Go.RowKit Go.Lib
set_option linter.unusedSimpArgs false
set_option linter.unusedVariables false
attribute [local go_sem] Oper.semAt_some
theorem idx_src (w:World) (x0 x1 x2 x3 x4 x5 x6 x7 x8 x9 x10 x11 x12 x13:Value):(Instr.index 173 (.agg #[x0,x1,x2,x3,x4,x5,x6,x7,x8,x9,x10,x11,x12,x13]) (.int .i64 0)).run Tryz.prog w=.ok (.agg #[x0,x1,x2,x3,x4,x5,x6]) w∧(Instr.index 173 (.agg #[x0,x1,x2,x3,x4,x5,x6,x7,x8,x9,x10,x11,x12,x13]) (.int .i64 1)).run Tryz.prog w=.ok (.agg #[x7,x8,x9,x10,x11,x12,x13]) w:=⟨by kernel_rfl,by kernel_rfl⟩
set_option maxRecDepth 100000 in
set_option maxHeartbeats 8000000 in
theorem complete_core (k k9:Nat) (hk22:22=k) (hk9:9=k9) (b1 b2 TB:Nat) (tv:Value) (ts:List CM) (w:World) (hT:Blk w TB 28 [tv]) (hTr:TrR w tv ts) (hTb:0<ts.length→∀ b,tv.ownBlock=some b→b<w.heap.size) (hN:ts.length≤64)
  (HM:Hid (∀ x∈ts,∀ s,(s=x.c.a∨s=x.c.b)→s.k≠2∧∃ (u:List Value) (ok:Bool),u.length=141∧(∀ v∈u,v.oneCell'=true)∧(s.k=1→ok=true)∧∀ w',Gr w w'→(Instr.lookup 137 (.map (some b1)) (.string s.nm) true).run Tryz.prog w'=.ok (.tuple #[.agg u.toArray,.bool ok]) w'))
  (HQ:Hid (∀ x∈ts,∀ s,(s=x.c.a∨s=x.c.b)→∃ (u:List Value) (ok:Bool),u.length=9∧(∀ v∈u,v.oneCell'=true)∧∀ w',Gr w w'→(Instr.lookup 138 (.map (some b2)) (.string s.nm) true).run Tryz.prog w'=.ok (.tuple #[.agg u.toArray,.bool ok]) w')) :
  Calls Tryz.prog 70 #[.agg #[.map (some b1),.map (some b2)],.agg (seqC TB).toArray] w fun e w'=>e=.returned (.bool true)∧Gr w w':=by
 have aE:∀ w,(isAgg 61).run Tryz.prog w=.ok true w:=Tryz.isAgg61
 have zE:∀ w,(Go.sizeOf 61).run Tryz.prog w=.ok k w:=fun w=>by rw [← hk22];exact Tryz.sizeOf61 w
 have aS:∀ w,(isAgg 73).run Tryz.prog w=.ok true w:=Tryz.isAgg73
 have zS:∀ w,(Go.sizeOf 73).run Tryz.prog w=.ok k9 w:=fun w=>by rw [← hk9];exact Tryz.sizeOf73 w
 obtain⟨km,hkm⟩:∃ km,141=km:=⟨_,rfl⟩
 have aM:∀ w,(isAgg 70).run Tryz.prog w=.ok true w:=Tryz.isAgg70
 have zM:∀ w,(Go.sizeOf 70).run Tryz.prog w=.ok km w:=fun w=>by rw [← hkm];exact Tryz.sizeOf70 w
 replace hkm:=Lib.hid hkm
 have hCl:Hid (∀ w',Calls Tryz.prog 101 #[.agg (seqC TB).toArray] w' fun e w''=>e=.returned (.func (.func 121) #[] #[.pointer (some ⟨w'.heap.size,0,none⟩)])∧w''=w'.alloc (.cells (seqC TB).toArray 73)):=Lib.hid fun w'=>clips_ok TB w'
 obtain⟨L,hL⟩:∃ L,seqC TB=L:=⟨_,rfl⟩
 have hL9:L.length=9:=by rw [← hL];rfl
 have hLk:L.length=k9:=by rw [hL9,hk9]
 rw [hL] at hCl ⊢
 have hC:=((Blk.new w [.map (some b1),.map (some b2)] 140).gr ((Gr.refl _).alloc (.cells L.toArray 73))).gr ((Gr.refl _).alloc (.cells #[.bool false] 4))
 have hQ:=(blkE_at (w:=w.alloc (.cells #[.map (some b1),.map (some b2)] 140)) (k:=w.heap.size+1) (by simp) L 73).gr ((Gr.refl _).alloc (.cells #[.bool false] 4))
 have hR:=blkE_at (w:=(w.alloc (.cells #[.map (some b1),.map (some b2)] 140)).alloc (.cells L.toArray 73)) (k:=w.heap.size+1+1) (by simp) [.bool false] 4
 have hg0:Gr w (((w.alloc (.cells #[.map (some b1),.map (some b2)] 140)).alloc (.cells L.toArray 73)).alloc (.cells #[.bool false] 4)):=(((Gr.refl w).alloc _).alloc _).alloc _
 have hWs:(((w.alloc (.cells #[.map (some b1),.map (some b2)] 140)).alloc (.cells L.toArray 73)).alloc (.cells #[.bool false] 4)).heap.size=w.heap.size+1+1+1:=by simp
 replace hk22:=Lib.hid hk22
 replace hk9:=Lib.hid hk9
 replace hL9:=Lib.hid hL9
 refine (callsIn_wide (n:=3)).1 ?_
 refine callsIn_of_wp_marks Tryz.func70 rfl trivial ?_ rfl
 simp only [Tryz.ntmps70,List.size_toArray,List.length_cons,List.length_nil,Nat.reduceAdd,Nat.reduceSub,Array.replicate_succ,Array.replicate_zero,List.push_toArray,List.append_toArray,List.nil_append,List.cons_append]
 have ldq:=ldB hLk hQ
 have hql:=hQ.lt
 gi_wp2_with (refine⟨trivial,?_⟩;gi_at_call 101;refine (callsIn_wide.2 (hCl.out _)).mono ?_;rintro e w2 ⟨rfl,rfl⟩)
 have gB:=(Gr.refl (((w.alloc (.cells #[.map (some b1),.map (some b2)] 140)).alloc (.cells L.toArray 73)).alloc (.cells #[.bool false] 4))).alloc (.cells L.toArray 73)
 have hX:=blkE_at hWs L 73
 have hC0:=hC.gr gB
 have hR0:=hR.gr gB
 have hgW:=hg0.trans gB
 have hWs0:=hX.lt
 clear hC hQ hR hg0 ldq hql gB
 generalize ((((w.alloc (.cells #[.map (some b1),.map (some b2)] 140)).alloc (.cells L.toArray 73)).alloc (.cells #[.bool false] 4)).alloc (.cells L.toArray 73))=W0 at *
 refine wpIn_rangeFunc_ownH rfl (by omega) (gf:=121) (lb:=#[.pointer (some ⟨w.heap.size+1+1+1,0,none⟩)]) rfl trivial (enters_of Tryz.func121 (by as_aux_lemma=>kernel_rfl) rfl)
  (clips_stops 2 (by omega) (w.heap.size+1+1+1) W0.heap.size TB tv ts W0 (Nat.le_refl _) (by rw [hL];exact hX) (hT.gr hgW) (hTr.gr hgW) (fun h0 b hb=>Nat.lt_of_lt_of_le (hTb h0 b hb) hgW.size) hN) belowK_t (belowK_b (Nat.le_refl _)) (Below.refl _ _) (fun _=>rfl)
  (fun pre W=>Below W0.heap.size W0 W) (fun c pre W=>False) (ownFrom_below (Nat.le_refl _) (Nat.le_refl _)) (fun c s W W' row h=>h.elim) (Below.refl _ _)
  (fun x a' W=>∃ Bx,W0.heap.size≤Bx∧Blk W Bx 61 x.1.cells∧a'={ tmps:=#[.agg #[.map (some b1),.map (some b2)],.agg L.toArray,.pointer (some ⟨w.heap.size,0,none⟩),.pointer (some ⟨w.heap.size+1,0,none⟩),.pointer (some ⟨w.heap.size+1+1,0,none⟩),.pointer (some ⟨Bx,0,none⟩),undef,undef,undef,undef,undef,undef,.agg L.toArray,.func (.func 121) #[] #[.pointer (some ⟨w.heap.size+1+1+1,0,none⟩)],.agg x.1.cells.toArray,undef,undef,undef,undef,undef,undef,undef,undef,undef,undef,undef,undef,undef,undef,undef,undef,undef,undef,undef,undef,undef,undef,undef,undef,undef,undef,undef,undef,undef,undef,undef,undef,undef,undef,undef,undef,undef,undef,undef,undef,undef],defers:=[] })
  (fun x a' _ X Y row hs hg hr=>by
   obtain⟨Bx,e1,e2,e3⟩:=hs
   refine⟨Bx,e1,e2.grown hg (fun e=>?_),e3⟩
   obtain⟨_,o,ho,hc⟩:=hr Bx e
   unfold Blk at e2
   rw [e2] at ho
   cases ho
   cases hc)
  ?assign ?body ?done ?stop
 case assign=>
  rintro l pre x W K hB hK
  have ho:=(hTr.ch x.1 x.2).one
  obtain⟨lc,hlc⟩:∃ lc,x.1.cells=lc:=⟨_,rfl⟩
  have hlk:lc.length=k:=by rw [← hlc,← hk22.out];rfl
  unfold CM.val
  rw [hlc] at hK ho ⊢
  have st:Sem.run Tryz.prog (storeCells ⟨W.heap.size,0,none⟩ lc 0) (W.alloc (.cells #[.int .i64 0,.int .i64 0,.int .i64 0,.string ⟨#[]⟩,.int .i64 0,.int .i64 0,.int .i64 0,.int .i64 0,.bool false,.int .i64 0,.string ⟨#[]⟩,.int .i64 0,.int .i64 0,.int .i64 0,.int .i64 0,.bool false,.int .i64 0,.int .i64 0,.int .i64 0,.string ⟨#[]⟩,.int .i64 0,.slice none 0 0] 61))=.ok () (W.alloc (.cells lc.toArray 61)):=st_new W _ _ lc (by rw [hlk,← hk22.out];exact infoClip) (by rw [hlk,← hk22.out];rfl) ho
  have hz:=hB.size
  gi_wp2
  exact hK _ _ ((KeepsOthers.alloc _ _).from _) ((Below.refl _ W).alloc hz _) (hB.alloc hz _) ⟨W.heap.size,hz,Blk.new W lc 61,rfl⟩
 case body=>
  rintro l pre x a' W hl ⟨r,hr⟩ hB ⟨Bx,hBx,bX,rfl⟩ hlt
  have hMx:=fun s hs=>HM.out x.1 x.2 s hs
  have hQx:=fun s hs=>HQ.out x.1 x.2 s hs
  obtain⟨m,hm⟩:=x
  dsimp only at bX hMx hQx ⊢
  have y:=bX.lt
  have y2:=(bX.cel.2 2 _ rfl).1
  have y3:=(bX.cel.2 3 _ rfl).1
  have y4:=(bX.cel.2 4 _ rfl).1
  have y5:=(bX.cel.2 5 _ rfl).1
  have y6:=(bX.cel.2 6 _ rfl).1
  have y7:=(bX.cel.2 7 _ rfl).1
  have y8:=(bX.cel.2 8 _ rfl).1
  have y9:=(bX.cel.2 9 _ rfl).1
  have y10:=(bX.cel.2 10 _ rfl).1
  have y11:=(bX.cel.2 11 _ rfl).1
  have y12:=(bX.cel.2 12 _ rfl).1
  have y13:=(bX.cel.2 13 _ rfl).1
  have y14:=(bX.cel.2 14 _ rfl).1
  have y15:=(bX.cel.2 15 _ rfl).1
  gi_wp2
  have hgWB:=hgW.trans hB
  have hCB:=hC0.gr hB
  clear y y2 y3 y4 y5 y6 y7 y8 y9 y10 y11 y12 y13 y14 y15
  gi_loopw [20] (fun i wr=>Gr W wr∧(i=.int .i64 0∨i=.int .i64 1∨i=.int .i64 2)) (fun i _=>2 - (RowKit.intOf i).toNat)
  case atStart=>exact⟨Gr.refl _,.inl rfl⟩
  case round=>
   obtain⟨hgr,hrel⟩:=hrel
   have hix:=fun w' x0 x1 x2 x3 x4 x5 x6 x7 x8 x9 x10 x11 x12 x13=>(idx_src w' x0 x1 x2 x3 x4 x5 x6 x7 x8 x9 x10 x11 x12 x13).1
   have hiy:=fun w' x0 x1 x2 x3 x4 x5 x6 x7 x8 x9 x10 x11 x12 x13=>(idx_src w' x0 x1 x2 x3 x4 x5 x6 x7 x8 x9 x10 x11 x12 x13).2
   rcases hrel with rfl | rfl | rfl
   ·obtain⟨hs2,u,ok,hu,huo,huk,hul⟩:=hMx m.c.a (.inl rfl)
    obtain⟨v9,ok9,hv,hvo,hvl⟩:=hQx m.c.a (.inl rfl)
    clear hMx hQx
    have g1:=hgWB.trans hgr
    have hC1:=hCB.gr hgr
    have gA:=(Gr.refl wr).alloc (.cells m.c.a.cells.toArray 59)
    have hSx:=Blk.new wr m.c.a.cells 59
    have hulk:u.length=km:=by rw [hu,hkm.out]
    have hvlk:v9.length=k9:=by rw [hv,hk9.out]
    have gU:=(Gr.refl (wr.alloc (.cells m.c.a.cells.toArray 59))).alloc (.cells u.toArray 70)
    have st1:=st_fresh (P:=Tryz.prog) (wr.alloc (.cells m.c.a.cells.toArray 59)) 70 Tryz.zeroCells70 u (by rw [hu];exact infoMed1) (by rw [hu];kernel_rfl) huo
    have l1:=hul _ (g1.trans gA)
    have l2:=hvl _ (g1.trans (gA.trans gU))
    have gV:=(Gr.refl ((wr.alloc (.cells m.c.a.cells.toArray 59)).alloc (.cells u.toArray 70))).alloc (.cells v9.toArray 73)
    have st2:=st_new ((wr.alloc (.cells m.c.a.cells.toArray 59)).alloc (.cells u.toArray 70)) 73 #[.string ⟨#[]⟩,.int .i64 0,.int .i64 0,.int .i64 0,.int .i64 0,.slice none 0 0,.slice none 0 0,.slice none 0 0,.int .i64 0] v9 (by rw [hv];exact infoSeqs) (by rw [hv];rfl) hvo (P:=Tryz.prog)
    simp only [World.size_alloc] at st1 st2
    have z:=(hC1.gr gA).lt
    have z0:=((hC1.gr gA).cel.2 0 _ rfl).1
    have z1:=((hC1.gr (gA.trans gU)).cel.2 1 _ rfl).1
    have z2:=(hC1.gr (gA.trans gU)).lt
    have x0:=hSx.lt
    have x1:=(hSx.cel.2 1 _ rfl).1
    have x2:=((hSx.gr gU).cel.2 1 _ rfl).1
    have x3:=((hSx.gr (gU.trans gV)).cel.2 0 _ rfl).1
    have x4:=(hSx.gr gU).lt
    have x5:=(hSx.gr (gU.trans gV)).lt
    have hgf:=hgr.trans (gA.trans (gU.trans gV))
    unfold Sr.cells at *
    have q2:(m.c.a.k == 2)=false:=by simp [hs2]
    replace hu:=Lib.hid hu
    replace hv:=Lib.hid hv
    by_cases hk1:m.c.a.k=1
    ·have q1:(m.c.a.k == 1)=true:=by rw [hk1];rfl
     have hok:=huk hk1
     subst hok
     replace hk1:=Lib.hid hk1
     gi_wp2
     go_roundw
     case rel=>exact⟨hgf,.inr (.inl rfl)⟩
     case measure=>simp [RowKit.intOf]
    ·have q1:(m.c.a.k == 1)=false:=by simp [hk1]
     replace hk1:=Lib.hid hk1
     gi_wp2
     go_roundw
     case rel=>exact⟨hgf,.inr (.inl rfl)⟩
     case measure=>simp [RowKit.intOf]
   ·obtain⟨hs2,u,ok,hu,huo,huk,hul⟩:=hMx m.c.b (.inr rfl)
    obtain⟨v9,ok9,hv,hvo,hvl⟩:=hQx m.c.b (.inr rfl)
    clear hMx hQx
    have g1:=hgWB.trans hgr
    have hC1:=hCB.gr hgr
    have gA:=(Gr.refl wr).alloc (.cells m.c.b.cells.toArray 59)
    have hSx:=Blk.new wr m.c.b.cells 59
    have hulk:u.length=km:=by rw [hu,hkm.out]
    have hvlk:v9.length=k9:=by rw [hv,hk9.out]
    have gU:=(Gr.refl (wr.alloc (.cells m.c.b.cells.toArray 59))).alloc (.cells u.toArray 70)
    have st1:=st_fresh (P:=Tryz.prog) (wr.alloc (.cells m.c.b.cells.toArray 59)) 70 Tryz.zeroCells70 u (by rw [hu];exact infoMed1) (by rw [hu];kernel_rfl) huo
    have l1:=hul _ (g1.trans gA)
    have l2:=hvl _ (g1.trans (gA.trans gU))
    have gV:=(Gr.refl ((wr.alloc (.cells m.c.b.cells.toArray 59)).alloc (.cells u.toArray 70))).alloc (.cells v9.toArray 73)
    have st2:=st_new ((wr.alloc (.cells m.c.b.cells.toArray 59)).alloc (.cells u.toArray 70)) 73 #[.string ⟨#[]⟩,.int .i64 0,.int .i64 0,.int .i64 0,.int .i64 0,.slice none 0 0,.slice none 0 0,.slice none 0 0,.int .i64 0] v9 (by rw [hv];exact infoSeqs) (by rw [hv];rfl) hvo (P:=Tryz.prog)
    simp only [World.size_alloc] at st1 st2
    have z:=(hC1.gr gA).lt
    have z0:=((hC1.gr gA).cel.2 0 _ rfl).1
    have z1:=((hC1.gr (gA.trans gU)).cel.2 1 _ rfl).1
    have z2:=(hC1.gr (gA.trans gU)).lt
    have x0:=hSx.lt
    have x1:=(hSx.cel.2 1 _ rfl).1
    have x2:=((hSx.gr gU).cel.2 1 _ rfl).1
    have x3:=((hSx.gr (gU.trans gV)).cel.2 0 _ rfl).1
    have x4:=(hSx.gr gU).lt
    have x5:=(hSx.gr (gU.trans gV)).lt
    have hgf:=hgr.trans (gA.trans (gU.trans gV))
    unfold Sr.cells at *
    have q2:(m.c.b.k == 2)=false:=by simp [hs2]
    replace hu:=Lib.hid hu
    replace hv:=Lib.hid hv
    by_cases hk1:m.c.b.k=1
    ·have q1:(m.c.b.k == 1)=true:=by rw [hk1];rfl
     have hok:=huk hk1
     subst hok
     replace hk1:=Lib.hid hk1
     gi_wp2
     go_roundw
     case rel=>exact⟨hgf,.inr (.inr rfl)⟩
     case measure=>simp [RowKit.intOf]
    ·have q1:(m.c.b.k == 1)=false:=by simp [hk1]
     replace hk1:=Lib.hid hk1
     gi_wp2
     go_roundw
     case rel=>exact⟨hgf,.inr (.inr rfl)⟩
     case measure=>simp [RowKit.intOf]
   ·gi_wp2
    exact⟨KeepsFrom.of_grownBy hgr.by0 (by simp),Below.mono hgr hB.size,hB.trans (Below.mono hgr hB.size)⟩
 case done=>
  rintro D ys W hD rfl hB hK
  have hR1:=hR0.gr hB
  have y0:=hR1.lt
  have y1:=(hR1.cel.2 0 _ rfl).1
  have y2:=(hR1.cel.2 0 _ rfl).2
  gi_wp2
  have hK2:(W.setCell ⟨w.heap.size+1+1,0,none⟩ (.bool true)).heap[D]?=some (.deferred (some [])):=by
   rw [Below.heap_setCell _ _ _ D (by show D≠w.heap.size+1+1;omega)]
   exact hK
  refine⟨by simp,.inl ⟨_,_,rfl,run_takeDeferred hK2,?_⟩⟩
  have hR2:=hR1.set 0 (.bool true)
  have hR3:=hR2.grown (grownBy_putObj' _ D (.deferred none)) (by intro e;injection e with e;omega)
  have y3:=hR3.lt
  have y4:=(hR3.cel.2 0 _ rfl).1
  have hg9:Gr w (W.setCell ⟨w.heap.size+1+1,0,none⟩ (.bool true)):=(hgW.trans hB).setCell (by show w.heap.size≤w.heap.size+1+1;omega) _
  have hg10:=hg9.grown (grownBy_putObj' _ D (.deferred none)) (fun k e=>by injection e with e;omega)
  refine⟨.bool true,?_,rfl,hg10⟩
  simp [results,Tryz.results70,go_sem,y3,y4]
 case stop=>
  rintro D c pre W hD _ h
  exact h.elim
end Go.Proofs.YtnginfangeikpaaGreatDoor

namespace Go.Proofs.YtnginfangeikpaaGreatDoor
open Go.RowKit Go.Lib
set_option linter.unusedSimpArgs false
set_option linter.unusedVariables false
set_option maxRecDepth 20000 in
theorem MapO.look2 {w:World} {b n:Nat} {D:DataW Value} (h:MapO w b n D) {t e:TypeId} (ht:Tryz.prog.underlying t=some (.map 9 e)) {z u:Value} (hz:(zeroValue e).run Tryz.prog w=.ok z w)
  {s:ByteArray} (hs:s.size≤maxLen) (hat:D.atKey (.string s.data.toList) (.held z)=.held u):(Instr.lookup t (.map (some b)) (.string s) true).run Tryz.prog w=.ok (.tuple #[u,.bool (Maps.has D (.string s.data.toList))]) w:=by
 obtain⟨vv,ps,hrun,hv⟩:=World.ownsMap.look_ok h keyed_str ht hz (zd:=.held z) (zp:=[]) rfl (MapO.key s hs)
 rw [hat] at hv
 unfold heldR at hv
 injection hv with hv
 injection hv with hv _
 injection hv with hv
 rw [hrun,hv]
theorem zeroMed (w:World):(zeroValue 70).run Tryz.prog w=.ok (.agg Tryz.zeroCells70) w:=by
 simp [zeroValue,go_sem]
 rfl
theorem zeroSqs (w:World):(zeroValue 73).run Tryz.prog w=.ok (.agg zeroSq.toArray) w:=by
 simp [zeroValue,go_sem]
 rfl
theorem catD_map (mls:Nat→List Value):∀ n,Maps.IsMap (catD mls n)
 | 0=>⟨[],rfl⟩
 | n+1=>by
  obtain⟨es,he⟩:=catD_map mls n
  show Maps.IsMap ((catD mls n).put _ _)
  rw [he]
  exact⟨_,rfl⟩
theorem catD_at (mls:Nat→List Value) (nm:List UInt8) (z:DataW Value):∀ n,(catD mls n).atKey (.string nm) z=z∨∃ q,q<n∧(catD mls n).atKey (.string nm) z=.held (.agg (mls q).toArray)
 | 0=>.inl rfl
 | n+1=>by
  show ((catD mls n).put _ _).atKey _ z=z∨_
  by_cases h:nm=(nmK n).data.toList
  ·right
   refine⟨n,by omega,?_⟩
   rw [h]
   exact Maps.atKey_put_same (catD_map mls n) (show WideAt.IsKeyLit (Lit.string _) from trivial) _ _
  ·have e:((catD mls n).put (Lit.string (nmK n).data.toList) (.held (.agg (mls n).toArray))).atKey (.string nm) z=(catD mls n).atKey (.string nm) z:=Maps.atKey_put_other (fun e=>h (by injection e)) _ _
   rcases catD_at mls nm z n with h2 | ⟨q,hq,h2⟩
   ·exact .inl (e.trans h2)
   ·exact .inr ⟨q,by omega,e.trans h2⟩
theorem catD_has (mls:Nat→List Value):∀ n q,q<n→Maps.has (catD mls n) (.string (nmK q).data.toList)=true
 | 0,q,h=>absurd h (Nat.not_lt_zero _)
 | n+1,q,h=>by
  show Maps.has ((catD mls n).put _ _) _=true
  by_cases he:(nmK q).data.toList=(nmK n).data.toList
  ·rw [he]
   exact Maps.has_put_same (catD_map mls n) (show WideAt.IsKeyLit (Lit.string _) from trivial) _
  ·rw [Maps.has_put_other (fun e=>he (by injection e))]
   exact catD_has mls n q (by
    rcases Nat.lt_or_ge q n with h | h
    ·exact h
    ·exact absurd (by rw [show q=n by omega]) he)
end Go.Proofs.YtnginfangeikpaaGreatDoor

namespace Go.Proofs.YtnginfangeikpaaGreatDoor
open Go.RowKit Go.Lib
set_option linter.unusedSimpArgs false
set_option linter.unusedVariables false
def SrN (s:Sr):Prop:=∃ r i,s=plS r i∧r.size≤1000000∧(r.size≠0→∃ q,q<3∧r=nmK q)
theorem SrN.k {s:Sr} (h:SrN s):s.k≠2∧s.nm.size≤1000000∧(s.k=1→∃ q,q<3∧s.nm=nmK q):=by
 obtain⟨r,i,rfl,hr,hq⟩:=h
 unfold plS
 by_cases h:r.size=0
 ·rw [if_pos h]
  refine⟨by decide,by decide,fun e=>absurd e (by decide)⟩
 ·rw [if_neg h]
  exact⟨(by decide:(1:Int)≠2),hr,fun _=>hq h⟩
theorem zmed_len:(Tryz.zeroCells70).toList.length=141:=by kernel_rfl
theorem zmed_one:∀ v∈(Tryz.zeroCells70).toList,v.oneCell'=true:=by
 have h:((Tryz.zeroCells70).toList.all fun v=>v.oneCell')=true:=by kernel_rfl
 exact List.all_eq_true.1 h
theorem complete_ok (b1 b2 TB:Nat) (mls:Nat→List Value) (tv:Value) (ts:List CM) (w:World) (hM:MapO w b1 3 (catD mls 3)) (hS:MapO w b2 1 (catS TB)) (hmed:∀ i,i<3→MedR (mls i) (nmK i) 5000 (.slice none 0 0))
  (hT:Blk w TB 28 [tv]) (hTr:TrR w tv ts) (hTb:0<ts.length→∀ b,tv.ownBlock=some b→b<w.heap.size) (hN:ts.length≤64) (hsr:∀ x∈ts,SrN x.c.a∧SrN x.c.b) :
  Calls Tryz.prog 70 #[.agg #[.map (some b1),.map (some b2)],.agg (seqC TB).toArray] w fun e w'=>e=.returned (.bool true)∧Gr w w':=by
 have hall:∀ x∈ts,∀ s,(s=x.c.a∨s=x.c.b)→SrN s:=fun x hx s hs=>by
  rcases hs with rfl | rfl
  ·exact (hsr x hx).1
  ·exact (hsr x hx).2
 refine complete_core 22 9 rfl rfl b1 b2 TB tv ts w hT hTr hTb hN (Lib.hid fun x hx s hs=>?_) (Lib.hid fun x hx s hs=>?_)
 ·obtain⟨k1,k2,k3⟩:=(hall x hx s hs).k
  have hz:Value.agg Tryz.zeroCells70=.agg (Tryz.zeroCells70).toList.toArray:=by rw [Array.toArray_toList]
  have hok:s.k=1→Maps.has (catD mls 3) (.string s.nm.data.toList)=true:=fun e=>by
   obtain⟨q,hq,e2⟩:=k3 e
   rw [e2]
   exact catD_has mls 3 q hq
  rcases catD_at mls s.nm.data.toList (.held (.agg Tryz.zeroCells70)) 3 with h | ⟨q,hq,h⟩
  ·exact⟨k1,_,_,zmed_len,zmed_one,hok,fun w' hg=>by rw [← hz];exact MapO.look2 (hM.gr hg) Tryz.underlying137 (zeroMed _) (by unfold maxLen;omega) h⟩
  ·exact⟨k1,_,_,(hmed q hq).n,(hmed q hq).one,hok,fun w' hg=>MapO.look2 (hM.gr hg) Tryz.underlying137 (zeroMed _) (by unfold maxLen;omega) h⟩
 ·obtain⟨k1,k2,k3⟩:=(hall x hx s hs).k
  by_cases h:s.nm.data.toList=[115]
  ·have e:(catS TB).atKey (.string s.nm.data.toList) (.held (.agg zeroSq.toArray))=.held (.agg (seqC TB).toArray):=by
    rw [h]
    exact Maps.atKey_put_same ⟨[],rfl⟩ (show WideAt.IsKeyLit (Lit.string _) from trivial) _ _
   exact⟨_,_,rfl,seqC_one TB,fun w' hg=>MapO.look2 (hS.gr hg) Tryz.underlying138 (zeroSqs _) (by unfold maxLen;omega) e⟩
  ·have e:(catS TB).atKey (.string s.nm.data.toList) (.held (.agg zeroSq.toArray))=.held (.agg zeroSq.toArray):=by
    have:=Maps.atKey_put_other (D:=(DataW.map []:DataW Value)) (k:=Lit.string [115]) (k':=Lit.string s.nm.data.toList) (fun e=>h (by injection e)) (.held (.agg (seqC TB).toArray)) (.held (.agg zeroSq.toArray))
    exact this
   refine⟨zeroSq,_,rfl,fun v hv=>?_,fun w' hg=>MapO.look2 (hS.gr hg) Tryz.underlying138 (zeroSqs _) (by unfold maxLen;omega) e⟩
   unfold zeroSq at hv
   simp only [List.mem_cons,List.not_mem_nil,or_false] at hv
   rcases hv with rfl | rfl | rfl | rfl | rfl | rfl | rfl | rfl | rfl <;> rfl
end Go.Proofs.YtnginfangeikpaaGreatDoor

namespace Go.Proofs.YtnginfangeikpaaGreatDoor
open Go.RowKit Go.Lib
set_option linter.unusedSimpArgs false
set_option linter.unusedVariables false
set_option maxRecDepth 20000 in
set_option maxHeartbeats 4000000 in
theorem idx_med3 (k:Nat) (hk:141=k) (MB mc SB TB:Nat) (mls:Nat→List Value) (tv:Value) (w:World) (hP0:PrjR w MB mls SB TB tv)
  (HM:Hid (∀ i,i<3→∀ w',Gr w w'→Calls Tryz.prog 66 #[.agg (mls i).toArray] w' fun e w''=>e=.returned (.bool false)∧Gr w' w'')) :
  Calls Tryz.prog 90 #[.slice (some ⟨MB,0,none⟩) 3 mc,.func (.func 66) #[] #[]] w fun e w'=>e=.returned (.int .i64 (-1))∧Gr w w':=by
 have aE:∀ w,(isAgg 70).run Tryz.prog w=.ok true w:=Tryz.isAgg70
 have zE:∀ w,(Go.sizeOf 70).run Tryz.prog w=.ok k w:=fun w=>by rw [← hk];exact Tryz.sizeOf70 w
 have hk0:¬ k=0:=by omega
 replace hk:=Lib.hid hk
 have hmed:=Lib.hid hP0.med
 go_enter Tryz.func90,Tryz.ntmps90
 go_wp2
 go_loopw [8] (fun v wr=>∃ jj:Nat,jj≤3∧v=.int .i64 jj∧Gr w wr) (fun v _=>3 - (RowKit.intOf v).toNat)
 case atStart=>exact⟨0,by omega,rfl,Gr.refl _⟩
 case round=>
  obtain⟨jj,hjj,rfl,hg⟩:=hrel
  by_cases c1:jj<3
  ·have q1:decide ((jj:Int)<3)=true:=decide_eq_true (by omega)
   have hPrj:=hP0.gr hg
   have hcell:=hPrj.cel jj c1
   have hm:=hmed.out jj c1
   have HMj:=Lib.hid (HM.out jj c1 wr hg)
   generalize mls jj=ml at *
   have hlk:ml.length=k:=hm.n.trans hk.out
   have la:Sem.run Tryz.prog (loadCellsFrom ⟨MB,jj * k,none⟩ 0 k #[]) wr=.ok ml.toArray wr:=by rw [show jj * k=jj * 141 by rw [← hk.out]];exact ld_row hlk hcell
   have hbr:=hPrj.lt
   clear hPrj hcell
   go_wp2_with (go_at_call 66;(with_reducible refine (HMj.out).mono ?_);rintro e w2 ⟨rfl,hg2⟩)
   go_roundw
   case rel=>exact⟨jj+1,by omega,by go_num,hg.trans hg2⟩
   case measure=>simp [RowKit.intOf];omega
  ·have q1:decide ((jj:Int)<3)=false:=decide_eq_false (by omega)
   go_wp2
   go_ret
   exact⟨rfl,hg⟩
theorem con_med3 (MB mc SB TB:Nat) (mls:Nat→List Value) (tv:Value) (w:World) (hP0:PrjR w MB mls SB TB tv)
  (HM:Hid (∀ i,i<3→∀ w',Gr w w'→Calls Tryz.prog 66 #[.agg (mls i).toArray] w' fun e w''=>e=.returned (.bool false)∧Gr w' w'')) :
  Calls Tryz.prog 65 #[.slice (some ⟨MB,0,none⟩) 3 mc,.func (.func 66) #[] #[]] w fun e w'=>e=.returned (.bool false)∧Gr w w':=by
 have HI:=Lib.hid (idx_med3 141 rfl MB mc SB TB mls tv w hP0 HM)
 go_enter Tryz.func65,Tryz.ntmps65
 go_wp2_with (go_at_call 90;(with_reducible refine HI.out.mono ?_);rintro e w2 ⟨rfl,hg2⟩)
 go_ret
 exact⟨rfl,hg2⟩
set_option maxRecDepth 20000 in
set_option maxHeartbeats 4000000 in
theorem idx_seq1 (k:Nat) (hk:9=k) (SB TB:Nat) (w:World) (hS:Blk w SB 73 (seqC TB))
  (HM:Hid (∀ w',Gr w w'→Calls Tryz.prog 68 #[.agg (seqC TB).toArray] w' fun e w''=>e=.returned (.bool false)∧Gr w' w'')) :
  Calls Tryz.prog 95 #[.slice (some ⟨SB,0,none⟩) 1 1,.func (.func 68) #[] #[]] w fun e w'=>e=.returned (.int .i64 (-1))∧Gr w w':=by
 have aE:∀ w,(isAgg 73).run Tryz.prog w=.ok true w:=Tryz.isAgg73
 have zE:∀ w,(Go.sizeOf 73).run Tryz.prog w=.ok k w:=fun w=>by rw [← hk];exact Tryz.sizeOf73 w
 obtain⟨L,hL⟩:∃ L,seqC TB=L:=⟨_,rfl⟩
 have hLk:L.length=k:=by rw [← hL,← hk];rfl
 rw [hL] at hS HM
 clear hL
 replace hk:=Lib.hid hk
 go_enter Tryz.func95,Tryz.ntmps95
 go_wp2
 go_loopw [8] (fun v wr=>Gr w wr∧(v=.int .i64 0∨v=.int .i64 1)) (fun v _=>1 - (RowKit.intOf v).toNat)
 case atStart=>exact⟨Gr.refl _,.inl rfl⟩
 case round=>
  obtain⟨hg,hrel⟩:=hrel
  rcases hrel with rfl | rfl
  ·have hS2:=hS.gr hg
   have la:=ldB hLk hS2
   have hl:=hS2.lt
   have HMj:=Lib.hid (HM.out wr hg)
   go_wp2_with (go_at_call 68;(with_reducible refine (HMj.out).mono ?_);rintro e w2 ⟨rfl,hg2⟩)
   go_roundw
   case rel=>exact⟨hg.trans hg2,.inr rfl⟩
   case measure=>simp [RowKit.intOf]
  ·go_wp2
   go_ret
   exact⟨rfl,hg⟩
theorem con_seq1 (SB TB:Nat) (w:World) (hS:Blk w SB 73 (seqC TB))
  (HM:Hid (∀ w',Gr w w'→Calls Tryz.prog 68 #[.agg (seqC TB).toArray] w' fun e w''=>e=.returned (.bool false)∧Gr w' w'')) :
  Calls Tryz.prog 67 #[.slice (some ⟨SB,0,none⟩) 1 1,.func (.func 68) #[] #[]] w fun e w'=>e=.returned (.bool false)∧Gr w w':=by
 have HI:=Lib.hid (idx_seq1 9 rfl SB TB w hS HM)
 go_enter Tryz.func67,Tryz.ntmps67
 go_wp2_with (go_at_call 95;(with_reducible refine HI.out.mono ?_);rintro e w2 ⟨rfl,hg2⟩)
 go_ret
 exact⟨rfl,hg2⟩
end Go.Proofs.YtnginfangeikpaaGreatDoor
