/-
  Contract of line of the reference of edit lists: it does not hang on the world.
  Conditions: the text has fewer than 4,294,967,281 bytes.
-/
import Derived.Test.YtgbiodnfpbhjiaaGreatDoorWalkXj
import Derived.Test.YtgbiodnfpbhjiaaGreatDoorShelfB
import Derived.Test.YtgbiodnfpbhjiaaGreatDoorClip
import Derived.Deep.DeepCutAuto
namespace Go.Proofs.YtgbiodnfpbhjiaaGreatDoor
open Go.RowKit Go.Lib
set_option linter.unusedSimpArgs false
set_option linter.unusedVariables false
theorem cell_other {w:World} {b o:Nat} {v:Value} {p:Addr} (h:w.cell? ⟨b,o,none⟩=some v) (hb:b<w.heap.size) (hne:p.block≠b) (u:Value):(w.setCell p u).cell? ⟨b,o,none⟩=some v:=
 (World.cell?_of_block (a:=⟨b,o,none⟩) ((grown_setCell w p u).block b hb (fun e=>by injection e with e;exact hne e.symm))).trans h
def reelW (s:ByteArray):ByteArray:=if s.data.toList=[66,76] then ⟨#[]⟩ else s
def KnW (w3:ByteArray) (k:Nat) (kd p fr:Int):Prop:=
 (k=4∧kd=0∧p=0∧fr=0)∨(k=5∧w3.data.toList=[68]∧kd=1∧p=0)∨(k=5∧w3.data.toList≠[68]∧kd=2∧∃ h:w3.size=2,w3[0]=87∧p=((w3[1]'(by omega)).toNat:Int) - 48)
set_option maxRecDepth 20000 in
set_option maxHeartbeats 8000000 in
theorem line_yes (S title:ByteArray) (b:Int) (d:Bool) (lv:Value) (w:World) (ws:List ByteArray) (k:Nat) (kd p fr f0 f1 f2 f3:Int) (w1 w3 w4 v0 v1 v2 v3 r:ByteArray) (hr:r=reelW w1)
  (HDV:∀ w,Calls Tryz.prog 68 #[.string S,.int .u8 32] w fun e w'=>∃ v,e=.returned v∧Gr w w'∧StrsR w' v ws)
  (hk:ws.length=k+4) (h1:ws[1]?=some w1) (h3:ws[3]?=some w3) (h4:ws[4]?=some w4) (i0:ws[k]?=some v0) (i1:ws[k+1]?=some v1) (i2:ws[k+2]?=some v2) (i3:ws[k+3]?=some v3)
  (hcase:KnW w3 k kd p fr) (HNU:k=5→∀ w,Calls Tryz.prog 109 #[.string w4] w fun e w'=>e=.returned (.int .i64 fr)∧Gr w w')
  (HF0:∀ w,Calls Tryz.prog 110 #[.string v0,.agg #[.string title,.int .i64 b,.bool d,lv]] w fun e w'=>e=.returned (.int .i64 f0)∧Gr w w')
  (HF1:∀ w,Calls Tryz.prog 110 #[.string v1,.agg #[.string title,.int .i64 b,.bool d,lv]] w fun e w'=>e=.returned (.int .i64 f1)∧Gr w w')
  (HF2:∀ w,Calls Tryz.prog 110 #[.string v2,.agg #[.string title,.int .i64 b,.bool d,lv]] w fun e w'=>e=.returned (.int .i64 f2)∧Gr w w')
  (HF3:∀ w,Calls Tryz.prog 110 #[.string v3,.agg #[.string title,.int .i64 b,.bool d,lv]] w fun e w'=>e=.returned (.int .i64 f3)∧Gr w w') :
  Calls Tryz.prog 69 #[.string S,.agg #[.string title,.int .i64 b,.bool d,lv]] w fun e w'=>e=.returned (.tuple #[.agg #[.int .i64 kd,.int .i64 p,.int .i64 fr,.string r,.int .i64 f0,.int .i64 f1,.int .i64 f2,.int .i64 f3],.bool true])∧Gr w w':=by
 replace HDV:=Lib.hid HDV
 replace hr:=Lib.hid hr
 replace HNU:=Lib.hid HNU
 replace HF0:=Lib.hid HF0
 replace HF1:=Lib.hid HF1
 replace HF2:=Lib.hid HF2
 replace HF3:=Lib.hid HF3
 have hg0:Gr w ((w.alloc (.cells #[.string title,.int .i64 b,.bool d,lv] 24)).alloc (.cells #[.int .i64 0,.int .i64 0,.int .i64 0,.string ⟨#[]⟩,.int .i64 0,.int .i64 0,.int .i64 0,.int .i64 0] 30)):=((Gr.refl w).alloc _).alloc _
 have hL0:Blk ((w.alloc (.cells #[.string title,.int .i64 b,.bool d,lv] 24)).alloc (.cells #[.int .i64 0,.int .i64 0,.int .i64 0,.string ⟨#[]⟩,.int .i64 0,.int .i64 0,.int .i64 0,.int .i64 0] 30)) w.heap.size 24 [.string title,.int .i64 b,.bool d,lv]:=(Blk.new w [.string title,.int .i64 b,.bool d,lv] 24).gr ((Gr.refl _).alloc _)
 have hR0:Blk ((w.alloc (.cells #[.string title,.int .i64 b,.bool d,lv] 24)).alloc (.cells #[.int .i64 0,.int .i64 0,.int .i64 0,.string ⟨#[]⟩,.int .i64 0,.int .i64 0,.int .i64 0,.int .i64 0] 30)) (w.heap.size+1) 30 [.int .i64 0,.int .i64 0,.int .i64 0,.string ⟨#[]⟩,.int .i64 0,.int .i64 0,.int .i64 0,.int .i64 0]:=by
  have h:=Blk.new (w.alloc (.cells #[.string title,.int .i64 b,.bool d,lv] 24)) [.int .i64 0,.int .i64 0,.int .i64 0,.string ⟨#[]⟩,.int .i64 0,.int .i64 0,.int .i64 0,.int .i64 0] 30
  rw [show (w.alloc (.cells #[.string title,.int .i64 b,.bool d,lv] 24)).heap.size=w.heap.size+1 by simp] at h
  exact h
 go_enter Tryz.func69,Tryz.ntmps69
 go_upto_region 2 with (go_at_call 68;(with_reducible refine (HDV.out _).mono ?_);rintro e w9 ⟨v,rfl,hg9,hws⟩)
 have hL1:=hL0.gr hg9
 have hR1:=hR0.gr hg9
 have hgw:=hg0.trans hg9
 clear hL0 hR0 hg0 hg9 HDV
 obtain⟨a,cap,rfl,hsh⟩:=hws.shape
 rcases hsh with h0 | ⟨wb,wo,rfl,hwb,hwc⟩
 ·omega
 have cell:∀ (i:Nat) (x:ByteArray),ws[i]?=some x→w9.cell? ⟨wb,wo+i,none⟩=some (.string x):=fun i x hx=>by
  obtain⟨hi,rfl⟩:=List.getElem?_eq_some_iff.1 hx
  exact hwc i hi
 have c1:=cell 1 _ h1
 have c3:=cell 3 _ h3
 have c4:=cell 4 _ h4
 have d0:=cell _ _ i0
 have d1:=cell _ _ i1
 have d2:=cell _ _ i2
 have d3:=cell _ _ i3
 clear hws hwc cell h1 h3 h4 i0 i1 i2 i3
 go_upto_region 3 with fail
 have hgX:Gr w9 (w9.alloc (.cells #[.int .i64 0,.int .i64 0,.int .i64 0,.string ⟨#[]⟩,.int .i64 0,.int .i64 0,.int .i64 0,.int .i64 0] 30)):=(Gr.refl w9).alloc _
 obtain⟨W,hWe⟩:∃ W,w9.alloc (.cells #[.int .i64 0,.int .i64 0,.int .i64 0,.string ⟨#[]⟩,.int .i64 0,.int .i64 0,.int .i64 0,.int .i64 0] 30)=W:=⟨_,rfl⟩
 have hX:Blk W w9.heap.size 30 [.int .i64 0,.int .i64 0,.int .i64 0,.string ⟨#[]⟩,.int .i64 0,.int .i64 0,.int .i64 0,.int .i64 0]:=by rw [← hWe];exact Blk.new w9 [.int .i64 0,.int .i64 0,.int .i64 0,.string ⟨#[]⟩,.int .i64 0,.int .i64 0,.int .i64 0,.int .i64 0] 30
 have hLr:w.heap.size<w9.heap.size:=hL1.lt
 have hRr:w.heap.size+1<w9.heap.size:=hR1.lt
 obtain⟨X,hXe⟩:∃ X,w9.heap.size=X:=⟨_,rfl⟩
 have hXle:w9.heap.size≤X:=by omega
 rw [hXe] at hX hLr hRr ⊢
 rw [hWe] at hgX ⊢
 have hwbX:wb<X:=by omega
 clear hXe hWe
 obtain⟨n,hn⟩:∃ n,ws.length=n:=⟨_,rfl⟩
 rw [hn] at hk ⊢
 clear hn
 have e3:=(hgX.cells.1 wb _ hwb).trans c3
 have e4:=(hgX.cells.1 wb _ hwb).trans c4
 have yw:=Nat.lt_of_lt_of_le hwb hgX.size
 have y0:=hX.lt
 obtain⟨z0,ff0⟩:=hX.cel.2 0 _ rfl
 obtain⟨z1,ff1⟩:=hX.cel.2 1 _ rfl
 obtain⟨z2,ff2⟩:=hX.cel.2 2 _ rfl
 have hk45:k=4∨k=5:=by rcases hcase with h | h | h <;> omega
 have i3:(3:Int)<(n:Int):=by omega
 have i3':3<n:=by omega
 have i4':4<n:=by omega
 have i4:(4:Int)<(n:Int):=by omega
 replace hk:=Lib.hid hk
 obtain⟨B0,hB0⟩:∃ B0,decide (k=5∧w3.data.toList=[68])=B0:=⟨_,rfl⟩
 replace hB0:=Lib.hid hB0
 go_cut [19] (fun vb wx=>vb=.bool B0∧wx=W)
 case first=>
  rcases hcase with ⟨rfl,_,_,_⟩ | ⟨rfl,h68,_,_⟩ | ⟨rfl,h68,_,hz2,h87,hp⟩
  ·have q1:((n:Int) == 9)=false:=by simp;have:=hk.out;omega
   obtain rfl:B0=false:=by rw [← hB0.out];exact decide_eq_false (by omega)
   go_wp2
   go_meet
   exact⟨rfl,rfl⟩
  ·have q1:((n:Int) == 9)=true:=by simp;have:=hk.out;omega
   have q2:(w3.toList == [68])=true:=by rw [bl_iff];exact decide_eq_true h68
   obtain rfl:B0=true:=by rw [← hB0.out];exact decide_eq_true ⟨rfl,h68⟩
   replace h68:=Lib.hid h68
   go_wp2
   go_meet
   exact⟨rfl,rfl⟩
  ·have q1:((n:Int) == 9)=true:=by simp;have:=hk.out;omega
   have q2:(w3.toList == [68])=false:=by rw [bl_iff];exact decide_eq_false h68
   obtain rfl:B0=false:=by rw [← hB0.out];exact decide_eq_false (fun h=>h68 h.2)
   replace h68:=Lib.hid h68
   go_wp2
   go_meet
   exact⟨rfl,rfl⟩
 case rest=>
  obtain⟨rfl,rfl⟩:=hcut
  go_upto_if 19 with fail
  go_cut [15] (fun _ wx=>Gr w9 wx∧Blk wx X 30 [.int .i64 kd,.int .i64 p,.int .i64 fr,.string ⟨#[]⟩,.int .i64 0,.int .i64 0,.int .i64 0,.int .i64 0])
  case first=>
   rcases hcase with ⟨rfl,rfl,rfl,rfl⟩ | ⟨rfl,h68,rfl,rfl⟩ | ⟨rfl,h68,rfl,hz2,h87,hp⟩
   ·have q1:((n:Int) == 9)=false:=by simp;have:=hk.out;omega
    have q2:((n:Int) != 8)=false:=by simp;have:=hk.out;omega
    obtain rfl:B0=false:=by rw [← hB0.out];exact decide_eq_false (by omega)
    go_wp2
    go_meet
    exact⟨hgX,hX⟩
   ·obtain rfl:B0=true:=by rw [← hB0.out];exact decide_eq_true ⟨rfl,h68⟩
    replace h68:=Lib.hid h68
    have HN:=Lib.hid (HNU.out rfl)
    go_wp2_with (go_at_call 109;(with_reducible refine (HN.out _).mono ?_);rintro e w10 ⟨rfl,hg10⟩;have hX10:=hX.gr hg10;have hg9:=hgX.trans hg10;have yy:=hX10.lt;have e10:=hX10.cel.2 0 _ rfl;have z10:=e10.1;have f10:=e10.2;have e12:=hX10.cel.2 2 _ rfl;have z12:=e12.1;have f12:=e12.2)
    go_meet
    exact⟨(hg9.setCell (p:=⟨X,0,none⟩) hXle _).setCell (p:=⟨X,2,none⟩) hXle _,(hX10.set 0 (.int .i64 1)).set 2 (.int .i64 fr)⟩
   ·obtain rfl:B0=false:=by rw [← hB0.out];exact decide_eq_false (fun h=>h68 h.2)
    replace h68:=Lib.hid h68
    have q1:((n:Int) == 9)=true:=by simp;have:=hk.out;omega
    have q3:((w3.size:Int) == 2)=true:=by simp;omega
    have q4:(((w3[0]'(by omega)).toNat:Int) == 87)=true:=by rw [h87];rfl
    have i0:(0:Int)<(w3.size:Int):=by omega
    have i1:(1:Int)<(w3.size:Int):=by omega
    have ub:((w3[1]'(by omega)).toNat:Int)<256:=by have:=UInt8.toNat_lt (w3[1]'(by omega));omega
    have wr8:IntKind.i64.wrap ((w3[1]'(by omega)).toNat:Int)=((w3[1]'(by omega)).toNat:Int):=by rw [IntKind.wrap_i64];omega
    have wr9:IntKind.i64.wrap (((w3[1]'(by omega)).toNat:Int) - 48)=((w3[1]'(by omega)).toNat:Int) - 48:=by rw [IntKind.wrap_i64];omega
    have HN:=Lib.hid (HNU.out rfl)
    go_upto_region 6 with fail
    have hgd:Gr wc wc.drew:=(Gr.refl wc).drew
    have hPU:wc.drew.cell? ⟨wb,wo+4,none⟩=some (.string w4)∧wc.drew.cell? ⟨wb,wo+3,none⟩=some (.string w3)∧wb<wc.drew.heap.size:=⟨(hgd.cells.1 wb _ yw).trans e4,(hgd.cells.1 wb _ yw).trans e3,Nat.lt_of_lt_of_le yw hgd.size⟩
    have hXd:=hX.gr hgd
    have hgWd:=hgX.trans hgd
    refine wp_region_still (Keep 10 (fun y=>y.cell? ⟨wb,wo+4,none⟩=some (.string w4)∧y.cell? ⟨wb,wo+3,none⟩=some (.string w3)∧wb<y.heap.size)) 16 rfl (by kernel_rfl) ?_
    show stillAny _ _ _ _ _ _ #[false,false,false,false,false,false,false,false,false,false,false,false,false,false,false,false] _ _
    generalize wc.drew=V at *
    refine still_pure 0 (v:=.slice (some ⟨wb,wo,none⟩) n cap) rfl (by kernel_rfl) (by kernel_rfl) (by kernel_rfl) (fun _=>hPU) rfl (fun w hw=>?_) ?_
    ·simp [execOp,go_sem] <;> (intros;omega)
    simp only [Act.put,zI,zS,zZ]
    refine still_pure 1 (v:=.pointer (some ⟨wb,wo+4,none⟩)) rfl (by kernel_rfl) (by kernel_rfl) (by kernel_rfl) (fun _=>hPU) rfl (fun w hw=>?_) ?_
    ·replace hw:=hw (by decide)
     have hq0:=i4
     (try simp at hq0)
     simp [execOp,go_sem,hq0]
    simp only [Act.put,zI,zS,zZ]
    refine still_pure 2 (v:=.string w4) rfl (by kernel_rfl) (by kernel_rfl) (by kernel_rfl) (fun _=>hPU) rfl (fun w hw=>?_) ?_
    ·replace hw:=hw (by decide)
     have hq0:=hw.2.2
     have hq1:=hw.1
     (try simp at hq0 hq1)
     simp [execOp,go_sem,hq0,hq1]
    simp only [Act.put,zI,zS,zZ]
    refine still_pure 4 (v:=.slice (some ⟨wb,wo,none⟩) n cap) rfl (by kernel_rfl) (by kernel_rfl) (by kernel_rfl) (fun _=>hPU) rfl (fun w hw=>?_) ?_
    ·simp [execOp,go_sem] <;> (intros;omega)
    simp only [Act.put,zI,zS,zZ]
    refine still_pure 5 (v:=.pointer (some ⟨wb,wo+3,none⟩)) rfl (by kernel_rfl) (by kernel_rfl) (by kernel_rfl) (fun _=>hPU) rfl (fun w hw=>?_) ?_
    ·replace hw:=hw (by decide)
     have hq0:=i3
     (try simp at hq0)
     simp [execOp,go_sem,hq0]
    simp only [Act.put,zI,zS,zZ]
    refine still_pure 6 (v:=.string w3) rfl (by kernel_rfl) (by kernel_rfl) (by kernel_rfl) (fun _=>hPU) rfl (fun w hw=>?_) ?_
    ·replace hw:=hw (by decide)
     have hq0:=hw.2.2
     have hq1:=hw.2.1
     (try simp at hq0 hq1)
     simp [execOp,go_sem,hq0,hq1]
    simp only [Act.put,zI,zS,zZ]
    refine still_pure 7 (v:=.int .u8 ((w3[1]'(by omega)).toNat:Int)) rfl (by kernel_rfl) (by kernel_rfl) (by kernel_rfl) (fun _=>hPU) rfl (fun w hw=>?_) ?_
    ·replace hw:=hw (by decide)
     have hq0:=i1
     (try simp at hq0)
     simp [execOp,go_sem,hq0]
    simp only [Act.put,zI,zS,zZ]
    refine still_pure 8 (v:=.int .i64 ((w3[1]'(by omega)).toNat:Int)) rfl (by kernel_rfl) (by kernel_rfl) (by kernel_rfl) (fun _=>hPU) rfl (fun w hw=>?_) ?_
    ·replace hw:=hw (by decide)
     have hq0:=wr8
     (try simp at hq0)
     simp [execOp,go_sem,hq0]
    simp only [Act.put,zI,zS,zZ]
    refine still_pure 9 (v:=.int .i64 (((w3[1]'(by omega)).toNat:Int) - 48)) rfl (by kernel_rfl) (by kernel_rfl) (by kernel_rfl) (fun _=>hPU) rfl (fun w hw=>?_) ?_
    ·replace hw:=hw (by decide)
     have hq0:=wr9
     (try simp at hq0)
     simp [execOp,go_sem,hq0]
    simp only [Act.put,zI,zS,zZ]
    refine still_pure 10 (v:=.pointer (some ⟨X,0,none⟩)) rfl (by kernel_rfl) (by kernel_rfl) (by kernel_rfl) (fun _=>hPU) rfl (fun w hw=>?_) ?_
    ·simp [execOp,go_sem] <;> (intros;omega)
    simp only [Act.put,zI,zS,zZ]
    refine still_next (j:=3) (by kernel_rfl) (by rfl) (fun R hR=>?_)
    (try simp only [zG,zH,zK])
    go_wp2_with (go_at_call 109;(with_reducible refine (HN.out _).mono ?_);rintro e w10 ⟨rfl,hg10⟩)
    refine only_normal (hR _ _ (Keep.step (fun h=>⟨(hg10.cells.1 wb _ h.2.2).trans h.1,(hg10.cells.1 wb _ h.2.2).trans h.2.1,Nat.lt_of_lt_of_le h.2.2 hg10.size⟩)) ?_)
    clear hR R
    simp only [Act.put,zI,zS,zZ]
    have hX10:=hXd.gr hg10
    have hg9:=hgWd.trans hg10
    have yy:=hX10.lt
    have a0:=hX10.cel.2 0 _ rfl
    have a00:=a0.1
    have a01:=a0.2
    have a1:=hX10.cel.2 1 _ rfl
    have a10:=a1.1
    have a11:=a1.2
    have a2:=hX10.cel.2 2 _ rfl
    have a20:=a2.1
    have a21:=a2.2
    clear a0 a1 a2
    refine still_next (j:=11) (by kernel_rfl) (by rfl) (fun R hR=>?_)
    (try simp only [zG,zH,zK])
    go_wp2_with fail
    refine only_normal (hR _ _ (Keep.step (fun h=>⟨cell_other h.1 h.2.2 (by simp;omega) _,cell_other h.2.1 h.2.2 (by simp;omega) _,by simpa using h.2.2⟩)) ?_)
    clear hR R
    simp only [Act.put,zI,zS,zZ]
    refine still_next (j:=12) (by kernel_rfl) (by rfl) (fun R hR=>?_)
    (try simp only [zG,zH,zK])
    go_wp2_with fail
    refine only_normal (hR _ _ (Keep.step (fun h=>h)) ?_)
    clear hR R
    simp only [Act.put,zI,zS,zZ]
    refine still_next (j:=13) (by kernel_rfl) (by rfl) (fun R hR=>?_)
    (try simp only [zG,zH,zK])
    go_wp2_with fail
    refine only_normal (hR _ _ (Keep.step (fun h=>⟨cell_other h.1 h.2.2 (by simp;omega) _,cell_other h.2.1 h.2.2 (by simp;omega) _,by simpa using h.2.2⟩)) ?_)
    clear hR R
    simp only [Act.put,zI,zS,zZ]
    refine still_next (j:=14) (by kernel_rfl) (by rfl) (fun R hR=>?_)
    (try simp only [zG,zH,zK])
    go_wp2_with fail
    refine only_normal (hR _ _ (Keep.step (fun h=>h)) ?_)
    clear hR R
    simp only [Act.put,zI,zS,zZ]
    refine still_next (j:=15) (by kernel_rfl) (by rfl) (fun R hR=>?_)
    (try simp only [zG,zH,zK])
    go_wp2_with fail
    refine only_normal (hR _ _ (Keep.step (fun h=>⟨cell_other h.1 h.2.2 (by simp;omega) _,cell_other h.2.1 h.2.2 (by simp;omega) _,by simpa using h.2.2⟩)) ?_)
    clear hR R
    simp only [Act.put,zI,zS,zZ]
    refine still_done (by kernel_rfl) ?_
    (try simp only [zG,zH,zK,zI,zS,zZ])
    go_wp2
    go_meet
    refine⟨((hg9.setCell (p:=⟨X,0,none⟩) hXle _).setCell (p:=⟨X,2,none⟩) hXle _).setCell (p:=⟨X,1,none⟩) hXle _,?_⟩
    rw [hp]
    exact ((hX10.set 0 (.int .i64 2)).set 2 (.int .i64 fr)).set 1 _
  case rest=>
   obtain⟨hgc,hXc⟩:=hcut
   have g1:=(hgc.cells.1 wb _ hwb).trans c1
   have yb:=Nat.lt_of_lt_of_le hwb hgc.size
   have yX:=hXc.lt
   have e33:=hXc.cel.2 3 (.string ⟨#[]⟩) rfl
   have z3:=e33.1
   have f33:=e33.2
   clear e33
   have i1:(1:Int)<(n:Int):=by omega
   have i1':1<n:=by omega
   obtain⟨B1,hB1⟩:∃ B1,(w1.toList == [66,76])=B1:=⟨_,rfl⟩
   have hrB:Hid (r=if B1=true then ⟨#[]⟩ else w1):=Lib.hid (by rw [hr.out,← hB1,bl_iff];unfold reelW;by_cases h:w1.data.toList=[66,76] <;> simp [h])
   go_upto_if 66 with fail
   go_cut [66] (fun _ wx=>Gr w9 wx∧Blk wx X 30 [.int .i64 kd,.int .i64 p,.int .i64 fr,.string r,.int .i64 0,.int .i64 0,.int .i64 0,.int .i64 0])
   case first=>
    cases B1 with
    | false=>
     have hr1:r=w1:=by rw [hrB.out];rfl
     replace hr1:=Lib.hid hr1
     go_wp2
     go_meet
     exact⟨hgc.setCell (p:=⟨X,3,none⟩) hXle _,by rw [hr1.out];exact hXc.set 3 (.string w1)⟩
    | true=>
     have hr1:r=⟨#[]⟩:=by rw [hrB.out];rfl
     replace hr1:=Lib.hid hr1
     go_wp2
     go_meet
     exact⟨(hgc.setCell (p:=⟨X,3,none⟩) hXle _).setCell (p:=⟨X,3,none⟩) hXle _,by rw [hr1.out];exact (hXc.set 3 (.string w1)).set 3 (.string ⟨#[]⟩)⟩
   case rest=>
    obtain⟨hgd,hXd⟩:=hcut
    have hnk:(n:Int) - 4=(k:Int):=by have:=hk.out;omega
    have hkn:k+4=n:=by have:=hk.out;omega
    have hLd:=hL1.gr hgd
    have hRd:=hR1.gr hgd
    have ye:=Nat.lt_of_lt_of_le hwb hgd.size
    have d00:=(hgd.cells.1 wb _ hwb).trans d0
    have d10:=(hgd.cells.1 wb _ hwb).trans d1
    have d20:=(hgd.cells.1 wb _ hwb).trans d2
    have d30:=(hgd.cells.1 wb _ hwb).trans d3
    have ik0:(0:Int)≤(k:Int)∧(k:Int)<(n:Int):=by omega
    have ik1:(0:Int)≤(k:Int)+1∧(k:Int)+1<(n:Int):=by omega
    have ik2:(0:Int)≤(k:Int)+2∧(k:Int)+2<(n:Int):=by omega
    have ik3:(0:Int)≤(k:Int)+3∧(k:Int)+3<(n:Int):=by omega
    have jk1:((k:Int)+1).toNat=k+1:=by omega
    have jk2:((k:Int)+2).toNat=k+2:=by omega
    have jk3:((k:Int)+3).toNat=k+3:=by omega
    have wk1:IntKind.i64.wrap ((k:Int)+1)=(k:Int)+1:=by rw [IntKind.wrap_i64];omega
    have wk2:IntKind.i64.wrap ((k:Int)+2)=(k:Int)+2:=by rw [IntKind.wrap_i64];omega
    have wk3:IntKind.i64.wrap ((k:Int)+3)=(k:Int)+3:=by rw [IntKind.wrap_i64];omega
    clear c1 c3 c4 d0 d1 d2 d3 hL1 hR1 hkn
    go_upto_region 13 with fail
    have hgu:Gr wc wc.drew:=(Gr.refl wc).drew
    have hXu:=hXd.gr hgu
    have hgdu:=hgd.trans hgu
    have hRu:=hRd.gr hgu
    have hPU:wc.drew.cell? ⟨wb,wo+k,none⟩=some (.string v0)∧wc.drew.cell? ⟨wb,wo+(k+1),none⟩=some (.string v1)∧wc.drew.cell? ⟨wb,wo+(k+2),none⟩=some (.string v2)∧wc.drew.cell? ⟨wb,wo+(k+3),none⟩=some (.string v3)∧wb<wc.drew.heap.size∧Blk wc.drew w.heap.size 24 [.string title,.int .i64 b,.bool d,lv]:=⟨(hgu.cells.1 wb _ ye).trans d00,(hgu.cells.1 wb _ ye).trans d10,(hgu.cells.1 wb _ ye).trans d20,(hgu.cells.1 wb _ ye).trans d30,Nat.lt_of_lt_of_le ye hgu.size,hLd.gr hgu⟩
    refine wp_region_still (Keep 27 (fun y=>y.cell? ⟨wb,wo+k,none⟩=some (.string v0)∧y.cell? ⟨wb,wo+(k+1),none⟩=some (.string v1)∧y.cell? ⟨wb,wo+(k+2),none⟩=some (.string v2)∧y.cell? ⟨wb,wo+(k+3),none⟩=some (.string v3)∧wb<y.heap.size∧Blk y w.heap.size 24 [.string title,.int .i64 b,.bool d,lv])) 35 rfl (by kernel_rfl) ?_
    show stillAny _ _ _ _ _ _ #[false,false,false,false,false,false,false,false,false,false,false,false,false,false,false,false,false,false,false,false,false,false,false,false,false,false,false,false,false,false,false,false,false,false,false] _ _
    clear hgd hXd hRd hLd hgu d00 d10 d20 d30 ye
    generalize wc.drew=V at *
    refine still_pure 0 (v:=.slice (some ⟨wb,wo,none⟩) n cap) rfl (by kernel_rfl) (by kernel_rfl) (by kernel_rfl) (fun _=>hPU) rfl (fun w hw=>?_) ?_
    ·simp [execOp,go_sem] <;> (intros;omega)
    simp only [Act.put,zI,zS,zZ]
    refine still_pure 1 (v:=.int .i64 k) rfl (by kernel_rfl) (by kernel_rfl) (by kernel_rfl) (fun _=>hPU) rfl (fun w hw=>?_) ?_
    ·simp [execOp,go_sem] <;> (intros;omega)
    simp only [Act.put,zI,zS,zZ]
    refine still_pure 2 (v:=.pointer (some ⟨wb,wo+k,none⟩)) rfl (by kernel_rfl) (by kernel_rfl) (by kernel_rfl) (fun _=>hPU) rfl (fun w hw=>?_) ?_
    ·replace hw:=hw (by decide)
     have hq0:=ik0
     (try simp at hq0)
     simp [execOp,go_sem,hq0]
    simp only [Act.put,zI,zS,zZ]
    refine still_pure 3 (v:=.string v0) rfl (by kernel_rfl) (by kernel_rfl) (by kernel_rfl) (fun _=>hPU) rfl (fun w hw=>?_) ?_
    ·replace hw:=hw (by decide)
     have hq0:=hw.2.2.2.2.1
     have hq1:=hw.1
     (try simp at hq0 hq1)
     simp [execOp,go_sem,hq0,hq1]
    simp only [Act.put,zI,zS,zZ]
    refine still_pure 4 (v:=.agg #[.string title,.int .i64 b,.bool d,lv]) rfl (by kernel_rfl) (by kernel_rfl) (by kernel_rfl) (fun _=>hPU) rfl (fun w hw=>?_) ?_
    ·replace hw:=hw (by decide)
     have hq0:=hw.2.2.2.2.2.lt
     have hq1:=(hw.2.2.2.2.2.cel.2 0 _ rfl).1
     have hq2:=(hw.2.2.2.2.2.cel.2 1 _ rfl).1
     have hq3:=(hw.2.2.2.2.2.cel.2 2 _ rfl).1
     have hq4:=(hw.2.2.2.2.2.cel.2 3 _ rfl).1
     (try simp at hq0 hq1 hq2 hq3 hq4)
     simp [execOp,go_sem,hq0,hq1,hq2,hq3,hq4]
    simp only [Act.put,zI,zS,zZ]
    refine still_pure 6 (v:=.slice (some ⟨wb,wo,none⟩) n cap) rfl (by kernel_rfl) (by kernel_rfl) (by kernel_rfl) (fun _=>hPU) rfl (fun w hw=>?_) ?_
    ·simp [execOp,go_sem] <;> (intros;omega)
    simp only [Act.put,zI,zS,zZ]
    refine still_pure 7 (v:=.int .i64 k) rfl (by kernel_rfl) (by kernel_rfl) (by kernel_rfl) (fun _=>hPU) rfl (fun w hw=>?_) ?_
    ·simp [execOp,go_sem] <;> (intros;omega)
    simp only [Act.put,zI,zS,zZ]
    refine still_pure 8 (v:=.int .i64 ((k:Int)+1)) rfl (by kernel_rfl) (by kernel_rfl) (by kernel_rfl) (fun _=>hPU) rfl (fun w hw=>?_) ?_
    ·replace hw:=hw (by decide)
     have hq0:=wk1
     (try simp at hq0)
     simp [execOp,go_sem,hq0]
    simp only [Act.put,zI,zS,zZ]
    refine still_pure 9 (v:=.pointer (some ⟨wb,wo+(k+1),none⟩)) rfl (by kernel_rfl) (by kernel_rfl) (by kernel_rfl) (fun _=>hPU) rfl (fun w hw=>?_) ?_
    ·replace hw:=hw (by decide)
     have hq0:=ik1
     have hq1:=jk1
     (try simp at hq0 hq1)
     simp [execOp,go_sem,hq0,hq1]
    simp only [Act.put,zI,zS,zZ]
    refine still_pure 10 (v:=.string v1) rfl (by kernel_rfl) (by kernel_rfl) (by kernel_rfl) (fun _=>hPU) rfl (fun w hw=>?_) ?_
    ·replace hw:=hw (by decide)
     have hq0:=hw.2.2.2.2.1
     have hq1:=hw.2.1
     (try simp at hq0 hq1)
     simp [execOp,go_sem,hq0,hq1]
    simp only [Act.put,zI,zS,zZ]
    refine still_pure 11 (v:=.agg #[.string title,.int .i64 b,.bool d,lv]) rfl (by kernel_rfl) (by kernel_rfl) (by kernel_rfl) (fun _=>hPU) rfl (fun w hw=>?_) ?_
    ·replace hw:=hw (by decide)
     have hq0:=hw.2.2.2.2.2.lt
     have hq1:=(hw.2.2.2.2.2.cel.2 0 _ rfl).1
     have hq2:=(hw.2.2.2.2.2.cel.2 1 _ rfl).1
     have hq3:=(hw.2.2.2.2.2.cel.2 2 _ rfl).1
     have hq4:=(hw.2.2.2.2.2.cel.2 3 _ rfl).1
     (try simp at hq0 hq1 hq2 hq3 hq4)
     simp [execOp,go_sem,hq0,hq1,hq2,hq3,hq4]
    simp only [Act.put,zI,zS,zZ]
    refine still_pure 13 (v:=.slice (some ⟨wb,wo,none⟩) n cap) rfl (by kernel_rfl) (by kernel_rfl) (by kernel_rfl) (fun _=>hPU) rfl (fun w hw=>?_) ?_
    ·simp [execOp,go_sem] <;> (intros;omega)
    simp only [Act.put,zI,zS,zZ]
    refine still_pure 14 (v:=.int .i64 k) rfl (by kernel_rfl) (by kernel_rfl) (by kernel_rfl) (fun _=>hPU) rfl (fun w hw=>?_) ?_
    ·simp [execOp,go_sem] <;> (intros;omega)
    simp only [Act.put,zI,zS,zZ]
    refine still_pure 15 (v:=.int .i64 ((k:Int)+2)) rfl (by kernel_rfl) (by kernel_rfl) (by kernel_rfl) (fun _=>hPU) rfl (fun w hw=>?_) ?_
    ·replace hw:=hw (by decide)
     have hq0:=wk2
     (try simp at hq0)
     simp [execOp,go_sem,hq0]
    simp only [Act.put,zI,zS,zZ]
    refine still_pure 16 (v:=.pointer (some ⟨wb,wo+(k+2),none⟩)) rfl (by kernel_rfl) (by kernel_rfl) (by kernel_rfl) (fun _=>hPU) rfl (fun w hw=>?_) ?_
    ·replace hw:=hw (by decide)
     have hq0:=ik2
     have hq1:=jk2
     (try simp at hq0 hq1)
     simp [execOp,go_sem,hq0,hq1]
    simp only [Act.put,zI,zS,zZ]
    refine still_pure 17 (v:=.string v2) rfl (by kernel_rfl) (by kernel_rfl) (by kernel_rfl) (fun _=>hPU) rfl (fun w hw=>?_) ?_
    ·replace hw:=hw (by decide)
     have hq0:=hw.2.2.2.2.1
     have hq1:=hw.2.2.1
     (try simp at hq0 hq1)
     simp [execOp,go_sem,hq0,hq1]
    simp only [Act.put,zI,zS,zZ]
    refine still_pure 18 (v:=.agg #[.string title,.int .i64 b,.bool d,lv]) rfl (by kernel_rfl) (by kernel_rfl) (by kernel_rfl) (fun _=>hPU) rfl (fun w hw=>?_) ?_
    ·replace hw:=hw (by decide)
     have hq0:=hw.2.2.2.2.2.lt
     have hq1:=(hw.2.2.2.2.2.cel.2 0 _ rfl).1
     have hq2:=(hw.2.2.2.2.2.cel.2 1 _ rfl).1
     have hq3:=(hw.2.2.2.2.2.cel.2 2 _ rfl).1
     have hq4:=(hw.2.2.2.2.2.cel.2 3 _ rfl).1
     (try simp at hq0 hq1 hq2 hq3 hq4)
     simp [execOp,go_sem,hq0,hq1,hq2,hq3,hq4]
    simp only [Act.put,zI,zS,zZ]
    refine still_pure 20 (v:=.slice (some ⟨wb,wo,none⟩) n cap) rfl (by kernel_rfl) (by kernel_rfl) (by kernel_rfl) (fun _=>hPU) rfl (fun w hw=>?_) ?_
    ·simp [execOp,go_sem] <;> (intros;omega)
    simp only [Act.put,zI,zS,zZ]
    refine still_pure 21 (v:=.int .i64 k) rfl (by kernel_rfl) (by kernel_rfl) (by kernel_rfl) (fun _=>hPU) rfl (fun w hw=>?_) ?_
    ·simp [execOp,go_sem] <;> (intros;omega)
    simp only [Act.put,zI,zS,zZ]
    refine still_pure 22 (v:=.int .i64 ((k:Int)+3)) rfl (by kernel_rfl) (by kernel_rfl) (by kernel_rfl) (fun _=>hPU) rfl (fun w hw=>?_) ?_
    ·replace hw:=hw (by decide)
     have hq0:=wk3
     (try simp at hq0)
     simp [execOp,go_sem,hq0]
    simp only [Act.put,zI,zS,zZ]
    refine still_pure 23 (v:=.pointer (some ⟨wb,wo+(k+3),none⟩)) rfl (by kernel_rfl) (by kernel_rfl) (by kernel_rfl) (fun _=>hPU) rfl (fun w hw=>?_) ?_
    ·replace hw:=hw (by decide)
     have hq0:=ik3
     have hq1:=jk3
     (try simp at hq0 hq1)
     simp [execOp,go_sem,hq0,hq1]
    simp only [Act.put,zI,zS,zZ]
    refine still_pure 24 (v:=.string v3) rfl (by kernel_rfl) (by kernel_rfl) (by kernel_rfl) (fun _=>hPU) rfl (fun w hw=>?_) ?_
    ·replace hw:=hw (by decide)
     have hq0:=hw.2.2.2.2.1
     have hq1:=hw.2.2.2.1
     (try simp at hq0 hq1)
     simp [execOp,go_sem,hq0,hq1]
    simp only [Act.put,zI,zS,zZ]
    refine still_pure 25 (v:=.agg #[.string title,.int .i64 b,.bool d,lv]) rfl (by kernel_rfl) (by kernel_rfl) (by kernel_rfl) (fun _=>hPU) rfl (fun w hw=>?_) ?_
    ·replace hw:=hw (by decide)
     have hq0:=hw.2.2.2.2.2.lt
     have hq1:=(hw.2.2.2.2.2.cel.2 0 _ rfl).1
     have hq2:=(hw.2.2.2.2.2.cel.2 1 _ rfl).1
     have hq3:=(hw.2.2.2.2.2.cel.2 2 _ rfl).1
     have hq4:=(hw.2.2.2.2.2.cel.2 3 _ rfl).1
     (try simp at hq0 hq1 hq2 hq3 hq4)
     simp [execOp,go_sem,hq0,hq1,hq2,hq3,hq4]
    simp only [Act.put,zI,zS,zZ]
    refine still_next (j:=5) (by kernel_rfl) (by rfl) (fun R hR=>?_)
    (try simp only [zG,zH,zK])
    go_wp2_with (go_at_call 110;(with_reducible refine (HF0.out _).mono ?_);rintro e u0 ⟨rfl,hh0⟩)
    refine only_normal (hR _ _ (Keep.step (fun h=>⟨(hh0.cells.1 wb _ h.2.2.2.2.1).trans h.1,(hh0.cells.1 wb _ h.2.2.2.2.1).trans h.2.1,(hh0.cells.1 wb _ h.2.2.2.2.1).trans h.2.2.1,(hh0.cells.1 wb _ h.2.2.2.2.1).trans h.2.2.2.1,Nat.lt_of_lt_of_le h.2.2.2.2.1 hh0.size,h.2.2.2.2.2.gr hh0⟩)) ?_)
    clear hR R
    simp only [Act.put,zI,zS,zZ]
    refine still_pure 27 (v:=.pointer (some ⟨X,4,none⟩)) rfl (by kernel_rfl) (by kernel_rfl) (by kernel_rfl) (fun _=>absurd ‹27<27› (by decide)) rfl (fun w hw=>?_) ?_
    ·simp [execOp,go_sem] <;> (intros;omega)
    simp only [Act.put,zI,zS,zZ]
    refine still_next (j:=12) (by kernel_rfl) (by rfl) (fun R hR=>?_)
    (try simp only [zG,zH,zK])
    go_wp2_with (go_at_call 110;(with_reducible refine (HF1.out _).mono ?_);rintro e u1 ⟨rfl,hh1⟩)
    refine only_normal (hR _ _ (Keep.step (fun h=>⟨(hh1.cells.1 wb _ h.2.2.2.2.1).trans h.1,(hh1.cells.1 wb _ h.2.2.2.2.1).trans h.2.1,(hh1.cells.1 wb _ h.2.2.2.2.1).trans h.2.2.1,(hh1.cells.1 wb _ h.2.2.2.2.1).trans h.2.2.2.1,Nat.lt_of_lt_of_le h.2.2.2.2.1 hh1.size,h.2.2.2.2.2.gr hh1⟩)) ?_)
    clear hR R
    simp only [Act.put,zI,zS,zZ]
    refine still_next (j:=19) (by kernel_rfl) (by rfl) (fun R hR=>?_)
    (try simp only [zG,zH,zK])
    go_wp2_with (go_at_call 110;(with_reducible refine (HF2.out _).mono ?_);rintro e u2 ⟨rfl,hh2⟩)
    refine only_normal (hR _ _ (Keep.step (fun h=>⟨(hh2.cells.1 wb _ h.2.2.2.2.1).trans h.1,(hh2.cells.1 wb _ h.2.2.2.2.1).trans h.2.1,(hh2.cells.1 wb _ h.2.2.2.2.1).trans h.2.2.1,(hh2.cells.1 wb _ h.2.2.2.2.1).trans h.2.2.2.1,Nat.lt_of_lt_of_le h.2.2.2.2.1 hh2.size,h.2.2.2.2.2.gr hh2⟩)) ?_)
    clear hR R
    simp only [Act.put,zI,zS,zZ]
    refine still_next (j:=26) (by kernel_rfl) (by rfl) (fun R hR=>?_)
    (try simp only [zG,zH,zK])
    go_wp2_with (go_at_call 110;(with_reducible refine (HF3.out _).mono ?_);rintro e u3 ⟨rfl,hh3⟩)
    refine only_normal (hR _ _ (Keep.step (fun h=>⟨(hh3.cells.1 wb _ h.2.2.2.2.1).trans h.1,(hh3.cells.1 wb _ h.2.2.2.2.1).trans h.2.1,(hh3.cells.1 wb _ h.2.2.2.2.1).trans h.2.2.1,(hh3.cells.1 wb _ h.2.2.2.2.1).trans h.2.2.2.1,Nat.lt_of_lt_of_le h.2.2.2.2.1 hh3.size,h.2.2.2.2.2.gr hh3⟩)) ?_)
    clear hR R
    simp only [Act.put,zI,zS,zZ]
    have hgF:=(((hgdu.trans hh0).trans hh1).trans hh2).trans hh3
    have hg4:=((hh0.trans hh1).trans hh2).trans hh3
    have hXF:=hXu.gr hg4
    have hRF:=hRu.gr hg4
    have yF:=hXF.lt
    have q4:=hXF.cel.2 4 (.int .i64 0) rfl
    have q4a:=q4.1
    have q4b:=q4.2
    clear q4
    have q5:=hXF.cel.2 5 (.int .i64 0) rfl
    have q5a:=q5.1
    have q5b:=q5.2
    clear q5
    have q6:=hXF.cel.2 6 (.int .i64 0) rfl
    have q6a:=q6.1
    have q6b:=q6.2
    clear q6
    have q7:=hXF.cel.2 7 (.int .i64 0) rfl
    have q7a:=q7.1
    have q7b:=q7.2
    clear q7
    refine still_next (j:=28) (by kernel_rfl) (by rfl) (fun R hR=>?_)
    (try simp only [zG,zH,zK])
    go_wp2_with fail
    refine only_normal (hR _ _ (Keep.step (fun h=>⟨cell_other h.1 h.2.2.2.2.1 (by simp;omega) _,cell_other h.2.1 h.2.2.2.2.1 (by simp;omega) _,cell_other h.2.2.1 h.2.2.2.2.1 (by simp;omega) _,cell_other h.2.2.2.1 h.2.2.2.2.1 (by simp;omega) _,by simpa using h.2.2.2.2.1,h.2.2.2.2.2.other (by simp;omega) _⟩)) ?_)
    clear hR R
    simp only [Act.put,zI,zS,zZ]
    refine still_next (j:=29) (by kernel_rfl) (by rfl) (fun R hR=>?_)
    (try simp only [zG,zH,zK])
    go_wp2_with fail
    refine only_normal (hR _ _ (Keep.step (fun h=>h)) ?_)
    clear hR R
    simp only [Act.put,zI,zS,zZ]
    refine still_next (j:=30) (by kernel_rfl) (by rfl) (fun R hR=>?_)
    (try simp only [zG,zH,zK])
    go_wp2_with fail
    refine only_normal (hR _ _ (Keep.step (fun h=>⟨cell_other h.1 h.2.2.2.2.1 (by simp;omega) _,cell_other h.2.1 h.2.2.2.2.1 (by simp;omega) _,cell_other h.2.2.1 h.2.2.2.2.1 (by simp;omega) _,cell_other h.2.2.2.1 h.2.2.2.2.1 (by simp;omega) _,by simpa using h.2.2.2.2.1,h.2.2.2.2.2.other (by simp;omega) _⟩)) ?_)
    clear hR R
    simp only [Act.put,zI,zS,zZ]
    refine still_next (j:=31) (by kernel_rfl) (by rfl) (fun R hR=>?_)
    (try simp only [zG,zH,zK])
    go_wp2_with fail
    refine only_normal (hR _ _ (Keep.step (fun h=>h)) ?_)
    clear hR R
    simp only [Act.put,zI,zS,zZ]
    refine still_next (j:=32) (by kernel_rfl) (by rfl) (fun R hR=>?_)
    (try simp only [zG,zH,zK])
    go_wp2_with fail
    refine only_normal (hR _ _ (Keep.step (fun h=>⟨cell_other h.1 h.2.2.2.2.1 (by simp;omega) _,cell_other h.2.1 h.2.2.2.2.1 (by simp;omega) _,cell_other h.2.2.1 h.2.2.2.2.1 (by simp;omega) _,cell_other h.2.2.2.1 h.2.2.2.2.1 (by simp;omega) _,by simpa using h.2.2.2.2.1,h.2.2.2.2.2.other (by simp;omega) _⟩)) ?_)
    clear hR R
    simp only [Act.put,zI,zS,zZ]
    refine still_next (j:=33) (by kernel_rfl) (by rfl) (fun R hR=>?_)
    (try simp only [zG,zH,zK])
    go_wp2_with fail
    refine only_normal (hR _ _ (Keep.step (fun h=>h)) ?_)
    clear hR R
    simp only [Act.put,zI,zS,zZ]
    refine still_next (j:=34) (by kernel_rfl) (by rfl) (fun R hR=>?_)
    (try simp only [zG,zH,zK])
    go_wp2_with fail
    refine only_normal (hR _ _ (Keep.step (fun h=>⟨cell_other h.1 h.2.2.2.2.1 (by simp;omega) _,cell_other h.2.1 h.2.2.2.2.1 (by simp;omega) _,cell_other h.2.2.1 h.2.2.2.2.1 (by simp;omega) _,cell_other h.2.2.2.1 h.2.2.2.2.1 (by simp;omega) _,by simpa using h.2.2.2.2.1,h.2.2.2.2.2.other (by simp;omega) _⟩)) ?_)
    clear hR R
    simp only [Act.put,zI,zS,zZ]
    refine still_done (by kernel_rfl) ?_
    (try simp only [zG,zH,zK,zI,zS,zZ])
    have hXE:=(((hXF.set 4 (.int .i64 f0)).set 5 (.int .i64 f1)).set 6 (.int .i64 f2)).set 7 (.int .i64 f3)
    have hRE:=(((hRF.other (p:=⟨X,4,none⟩) (by simp;omega) (.int .i64 f0)).other (p:=⟨X,5,none⟩) (by simp;omega) (.int .i64 f1)).other (p:=⟨X,6,none⟩) (by simp;omega) (.int .i64 f2)).other (p:=⟨X,7,none⟩) (by simp;omega) (.int .i64 f3)
    have hgE:=((((hgw.trans hgF).setCell (p:=⟨X,4,none⟩) (by simp;omega) (.int .i64 f0)).setCell (p:=⟨X,5,none⟩) (by simp;omega) (.int .i64 f1)).setCell (p:=⟨X,6,none⟩) (by simp;omega) (.int .i64 f2)).setCell (p:=⟨X,7,none⟩) (by simp;omega) (.int .i64 f3)
    obtain⟨U,hU⟩:∃ U,(((u3.setCell ⟨X,4,none⟩ (.int .i64 f0)).setCell ⟨X,5,none⟩ (.int .i64 f1)).setCell ⟨X,6,none⟩ (.int .i64 f2)).setCell ⟨X,7,none⟩ (.int .i64 f3)=U:=⟨_,rfl⟩
    rw [hU] at hXE hRE hgE ⊢
    clear hU hXF hRF hgF hg4 hh0 hh1 hh2 hh3 hXu hRu hgdu hPU HF0 HF1 HF2 HF3 HNU
    have xl:=hXE.lt
    have rl:=hRE.lt
    have hx0:U.cell? ⟨X,0,none⟩=some (.int .i64 kd):=(hXE.cel.2 0 _ rfl).1
    have hx1:U.cell? ⟨X,1,none⟩=some (.int .i64 p):=(hXE.cel.2 1 _ rfl).1
    have hx2:U.cell? ⟨X,2,none⟩=some (.int .i64 fr):=(hXE.cel.2 2 _ rfl).1
    have hx3:U.cell? ⟨X,3,none⟩=some (.string r):=(hXE.cel.2 3 _ rfl).1
    have hx4:U.cell? ⟨X,4,none⟩=some (.int .i64 f0):=(hXE.cel.2 4 _ rfl).1
    have hx5:U.cell? ⟨X,5,none⟩=some (.int .i64 f1):=(hXE.cel.2 5 _ rfl).1
    have hx6:U.cell? ⟨X,6,none⟩=some (.int .i64 f2):=(hXE.cel.2 6 _ rfl).1
    have hx7:U.cell? ⟨X,7,none⟩=some (.int .i64 f3):=(hXE.cel.2 7 _ rfl).1
    obtain⟨s0,t0⟩:=hRE.cel.2 0 _ rfl
    obtain⟨s1,t1⟩:=hRE.cel.2 1 _ rfl
    obtain⟨s2,t2⟩:=hRE.cel.2 2 _ rfl
    obtain⟨s3,t3⟩:=hRE.cel.2 3 _ rfl
    obtain⟨s4,t4⟩:=hRE.cel.2 4 _ rfl
    obtain⟨s5,t5⟩:=hRE.cel.2 5 _ rfl
    obtain⟨s6,t6⟩:=hRE.cel.2 6 _ rfl
    obtain⟨s7,t7⟩:=hRE.cel.2 7 _ rfl
    go_wp2
    simp [bodyPost,results,Tryz.results69,go_sem,s0,s1,s2,s3,s4,s5,s6,s7]
    repeat (first | (with_reducible exact hgE) | (with_reducible refine Gr.setCell ?_ (by simp) _))
end Go.Proofs.YtgbiodnfpbhjiaaGreatDoor
