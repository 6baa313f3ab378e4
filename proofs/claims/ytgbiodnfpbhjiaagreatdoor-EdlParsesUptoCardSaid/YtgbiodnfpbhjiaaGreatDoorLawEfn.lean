/-
  Contract of Same of the reference, for a list that stands twice in memory.
  Conditions: both lie in memory.
-/
import Derived.Test.YtgbiodnfpbhjiaaGreatDoorWalkEe
import Derived.Deep.DeepCutAuto
import Derived.Test.YtgbiodnfpbhjiaaGreatDoorLawEfm
import Derived.Test.YtgbiodnfpbhjiaaGreatDoorBytes
import Derived.Test.YtgbiodnfpbhjiaaGreatDoorWalkXm
namespace Go.Proofs.YtgbiodnfpbhjiaaGreatDoor
open Go.RowKit Go.Lib
set_option linter.unusedSimpArgs false
set_option linter.unusedVariables false
set_option maxHeartbeats 1000000 in
theorem neq_ev (x:Ev) (w:World):(binOp .neq 30 x.val x.val).run Tryz.prog w=.ok (.bool false) w:=by
 obtain⟨k,p,fr,reel,i,o,f,t⟩:=x
 unfold Ev.val
 simp [go_sem]
set_option maxRecDepth 20000 in
set_option maxHeartbeats 4000000 in
theorem rsame_true (l:El) (v v':Value) (w:World) (h:ElR w v l) (h':ElR w v' l):Calls Tryz.prog 22 #[l.val v,l.val v'] w fun e w'=>e=.returned (.bool true)∧Gr w w':=by
 have hr:=h.evs
 have hr':=h'.evs
 have hn:=h.n
 obtain⟨title,base,drop,evs⟩:=l
 simp only at hr hr' hn
 clear h h'
 obtain⟨a1,c1,rfl,ha1⟩:=hr.shape
 obtain⟨a2,c2,rfl,ha2⟩:=hr'.shape
 have hneq:=Lib.hid neq_ev
 unfold El.val
 simp only
 obtain⟨W,hW⟩:∃ W,(w.alloc (.cells #[.string title,.int .i64 base,.bool drop,.slice a1 evs.length c1] 24)).alloc (.cells #[.string title,.int .i64 base,.bool drop,.slice a2 evs.length c2] 24)=W:=⟨_,rfl⟩
 have hgA:Gr w W:=by rw [← hW];exact ((Gr.refl w).alloc _).alloc _
 have hb1:Cel W w.heap.size [.string title,.int .i64 base,.bool drop,.slice a1 evs.length c1]:=by rw [← hW];exact (Cel.new w #[.string title,.int .i64 base,.bool drop,.slice a1 evs.length c1] 24).alloc _
 have hb2:Cel W (w.heap.size+1) [.string title,.int .i64 base,.bool drop,.slice a2 evs.length c2]:=by
  rw [← hW]
  have:=Cel.new (w.alloc (.cells #[.string title,.int .i64 base,.bool drop,.slice a1 evs.length c1] 24)) #[.string title,.int .i64 base,.bool drop,.slice a2 evs.length c2] 24
  simpa using this
 replace hW:=Lib.hid hW
 replace ha1:=Lib.hid ha1
 replace ha2:=Lib.hid ha2
 clear hr hr'
 go_enter Tryz.func22,Tryz.ntmps22
 go_upto_region 1 with fail
 rw [hW.out]
 have x:=hb1.lt
 have x0:=(hb1.2 0 _ rfl).1
 have x1:=(hb1.2 1 _ rfl).1
 have x2:=(hb1.2 2 _ rfl).1
 have x3:=(hb1.2 3 _ rfl).1
 have y:=hb2.lt
 have y0:=(hb2.2 0 _ rfl).1
 have y1:=(hb2.2 1 _ rfl).1
 have y2:=(hb2.2 2 _ rfl).1
 have y3:=(hb2.2 3 _ rfl).1
 go_wp2
 go_loopw [5] (fun i wr=>∃ j:Nat,j≤evs.length∧i=.int .i64 j∧Gr W wr) (fun i _=>evs.length - (RowKit.intOf i).toNat)
 case atStart=>exact⟨0,Nat.zero_le _,rfl,Gr.refl _⟩
 case round=>
  obtain⟨j,hj,rfl,hg⟩:=hrel
  clear x x0 x1 x2 x3 y y0 y1 y2 y3
  have x:=(hb1.gr hg).lt
  have x3:=((hb1.gr hg).2 3 _ rfl).1
  have y:=(hb2.gr hg).lt
  have y3:=((hb2.gr hg).2 3 _ rfl).1
  by_cases k1:j<evs.length
  ·have q1:decide ((j:Int)<(evs.length:Int))=true:=decide_eq_true (by omega)
   rcases ha1.out with h0 | ⟨p1,o1,rfl,hp1,hc1⟩
   ·omega
   rcases ha2.out with h0 | ⟨p2,o2,rfl,hp2,hc2⟩
   ·omega
   have hx1:p1<wr.heap.size:=Nat.lt_of_lt_of_le hp1 (hgA.trans hg).size
   have hx2:p2<wr.heap.size:=Nat.lt_of_lt_of_le hp2 (hgA.trans hg).size
   obtain⟨e0,e1,e2,e3,e4,e5,e6,e7⟩:=ev_cells k1 hp1 (hgA.trans hg) hc1
   obtain⟨f0,f1,f2,f3,f4,f5,f6,f7⟩:=ev_cells k1 hp2 (hgA.trans hg) hc2
   have hq:=hneq.out evs[j]
   generalize evs[j]=e at *
   unfold Ev.val at hq
   clear hc1 hc2
   go_upto_region 6 with fail
   refine wp_region_gr (by kernel_rfl) (by kernel_rfl) (fun hq1 hq2=>?_)
   repeat (first | go_big_quiet_skip | (go_big_quiet_want;go_big_quiet_op;first | go_big_quiet_on | (apply Exists.intro;refine⟨fun _=>?_,?_⟩;(· (fail));go_big_quiet_on)))
   refine wpQuiet_nil ?_
   clear hq1 hq2
   rintro w1 ⟨⟨_,hg1⟩,rfl⟩
   obtain⟨hc1,hf1⟩:=hg1.cells
   have hz1:=hg1.size
   (try simp at hz1);(try have hl1_0_0:w.heap.size<w1.heap.size:=by omega);(try have hm1_0_0:w.heap.size≤w1.heap.size:=by omega);(try have hl1_0_1:w.heap.size+1<w1.heap.size:=by omega);(try have hl1_0_2:w.heap.size+2<w1.heap.size:=by omega)
   go_wp2
   go_roundw
   case rel=>exact⟨j+1,by omega,by go_num,hg.trans hg1⟩
   case measure=>simp [RowKit.intOf];omega
  ·have q1:decide ((j:Int)<(evs.length:Int))=false:=decide_eq_false (by omega)
   go_wp2
   go_ret
   exact⟨rfl,hgA.trans hg⟩
end Go.Proofs.YtgbiodnfpbhjiaaGreatDoor

namespace Go.Proofs.YtgbiodnfpbhjiaaGreatDoor
open Go.RowKit Go.Lib
set_option linter.unusedSimpArgs false
set_option linter.unusedVariables false
theorem fmtB_len {l:El} (h:vEl l=true):(fmtB l).length≤110000:=by
 have h1:=flatB_len (lines_size l h)
 have h2:=(linesB_ok l h).2
 obtain⟨_,_,h3,_⟩:=vEl_parts h
 unfold fmtB
 rw [h2] at h1
 omega
theorem ba_of_size (l:List UInt8):(⟨l.toArray⟩:ByteArray).size=l.length:=by rw [← ba_len]
theorem okB_false {b:Int} {d:Bool} (h:C19.okB b d=true):C19.okB b false=true:=by
 unfold C19.okB at *
 simp only [Bool.and_eq_true] at h ⊢
 exact⟨h.1,rfl⟩
end Go.Proofs.YtgbiodnfpbhjiaaGreatDoor
