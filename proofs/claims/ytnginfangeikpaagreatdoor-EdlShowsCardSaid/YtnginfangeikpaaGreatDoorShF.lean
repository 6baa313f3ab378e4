/-
  Maps with strings as keys, their elements as they lie.
  Conditions: none.
-/
import Derived.Test.YtnginfangeikpaaGreatDoorChecked
import Derived.Test.YtnginfangeikpaaGreatDoorMem
import Derived.StringKeys
import Derived.Maps.Own
import Derived.Maps.OwnSet
import Derived.Maps.Views
import Derived.Test.YtnginfangeikpaaGreatDoorShP
import Derived.Test.YtnginfangeikpaaGreatDoorWalkUd
namespace Go.Proofs.YtnginfangeikpaaGreatDoor
open Go.RowKit Go.Lib
set_option linter.unusedVariables false
set_option linter.unusedSimpArgs false
def heldR (v:Value):Option (DataW Value × List MemPlace):=some (.held v,[])
theorem keyed_str:Maps.Keyed Tryz.prog 9:=Maps.string_keyed Tryz.underlying9
def MapO (w:World) (b n:Nat) (D:DataW Value):Prop:=w.ownsMap Tryz.prog 9 heldR b n D
theorem MapO.lt {w:World} {b n:Nat} {D:DataW Value} (h:MapO w b n D):b<w.heap.size:=World.ownsMap.lt h
theorem MapO.new (w:World):MapO (w.alloc (.map #[] 0)) w.heap.size 0 (.map []):=World.ownsMap_made w _ _ _
theorem MapO.gr {w w':World} {b n:Nat} {D:DataW Value} (hg:Gr w w') (h:MapO w b n D):MapO w' b n D:=World.ownsMap.kept h hg.by0 (by simp)
theorem MapO.grown {w w':World} {b n:Nat} {D:DataW Value} {r:Option Nat} (h:MapO w b n D) (hg:w.grownBy w' r) (hr:r≠some b):MapO w' b n D:=World.ownsMap.kept h hg (fun e=>hr e.symm)
theorem MapO.other {w:World} {b n:Nat} {D:DataW Value} (h:MapO w b n D) {p:Addr} (hp:p.block≠b) (u:Value):MapO (w.setCell p u) b n D:=World.ownsMap.setCell h (fun e=>hp e.symm) u
theorem MapO.key (s:ByteArray) (hs:s.size≤maxLen):keyOf Tryz.prog 9 (.string s)=some (Lit.string s.data.toList):=by
 exact Go.WideMaps.keyOf_string_mk Tryz.underlying9 hs
end Go.Proofs.YtnginfangeikpaaGreatDoor

namespace Go.Proofs.YtnginfangeikpaaGreatDoor
open Go.RowKit Go.Lib
set_option linter.unusedSimpArgs false
set_option linter.unusedVariables false
set_option maxRecDepth 20000 in
theorem MapO.look {w:World} {b n:Nat} {D:DataW Value} (h:MapO w b n D) {t e:TypeId} (ht:Tryz.prog.underlying t=some (.map 9 e)) {z u:Value} (hz:(zeroValue e).run Tryz.prog w=.ok z w)
  {s:ByteArray} (hs:s.size≤maxLen) (hat:D.atKey (.string s.data.toList) (.held z)=.held u):(Instr.lookup t (.map (some b)) (.string s) false).run Tryz.prog w=.ok u w:=by
 obtain⟨vv,ps,hrun,hv⟩:=World.ownsMap.lookup h keyed_str ht hz (zd:=.held z) (zp:=[]) rfl (MapO.key s hs)
 rw [hat] at hv
 unfold heldR at hv
 injection hv with hv
 injection hv with hv _
 injection hv with hv
 rw [hrun,hv]
set_option maxRecDepth 20000 in
theorem MapO.has {w:World} {b n:Nat} {D:DataW Value} (h:MapO w b n D) {t e:TypeId} (ht:Tryz.prog.underlying t=some (.map 9 e)) {z u:Value} (hz:(zeroValue e).run Tryz.prog w=.ok z w)
  {s:ByteArray} (hs:s.size≤maxLen) (hat:D.atKey (.string s.data.toList) (.held z)=.held u) (hh:Maps.has D (.string s.data.toList)=true):(Instr.lookup t (.map (some b)) (.string s) true).run Tryz.prog w=.ok (.tuple #[u,.bool true]) w:=by
 obtain⟨vv,ps,hrun,hv⟩:=World.ownsMap.look_ok h keyed_str ht hz (zd:=.held z) (zp:=[]) rfl (MapO.key s hs)
 rw [hat] at hv
 unfold heldR at hv
 injection hv with hv
 injection hv with hv _
 injection hv with hv
 rw [hrun,hv,hh]
theorem zeroI64 (w:World):(zeroValue 2).run Tryz.prog w=.ok (.int .i64 0) w:=by
 simp [zeroValue,go_sem]
 rfl
def FrR (w:World) (b1:Nat) (r:ByteArray):Prop:=∃ n D,MapO w b1 n D∧D.atKey (.string r.data.toList) (.held (.int .i64 0))=.held (.int .i64 5000)
theorem FrR.gr {w w':World} {b1:Nat} {r:ByteArray} (hg:Gr w w') (h:FrR w b1 r):FrR w' b1 r:=by
 obtain⟨n,D,h1,h2⟩:=h
 exact⟨n,D,h1.gr hg,h2⟩
set_option maxRecDepth 20000 in
set_option maxHeartbeats 4000000 in
theorem sframe_core (k:Nat) (hk8:8=k) (b1:Nat) (v2:Value) (hv2:v2.oneCell'=true) (r:ByteArray) (q i:Int) (w:World) (hr:r.size≤1000000) (hF:FrR w b1 r) (hi:0≤i∧i<5000) :
  Calls Tryz.prog 103 #[.agg #[.map (some b1),v2],.agg #[.int .i64 1,.string r,.int .i64 q,.int .i64 1,.int .i64 1,.int .i64 1,.bool false],.int .i64 i] w fun e w'=>e=.returned (.agg (lfC (.src r i) nilE).toArray)∧Gr w w':=by
 have aE:∀ w,(isAgg 41).run Tryz.prog w=.ok true w:=Tryz.isAgg41
 have zE:∀ w,(Go.sizeOf 41).run Tryz.prog w=.ok k w:=fun w=>by rw [← hk8];exact Tryz.sizeOf41 w
 obtain⟨L,hL⟩:∃ L,lfC (.src r i) nilE=L:=⟨_,rfl⟩
 have hL8:L.length=8:=by rw [← hL];rfl
 have hLo:∀ v∈L,v.oneCell'=true:=by rw [← hL];exact exC_one _ _ _ _ _ _ _ _ _ _
 have hLk:L.length=k:=by rw [hL8,hk8]
 rw [hL]
 have hI:=((Blk.new w [.map (some b1),v2] 79).gr ((Gr.refl _).alloc (.cells #[.int .i64 1,.string r,.int .i64 q,.int .i64 1,.int .i64 1,.int .i64 1,.bool false] 59))).gr ((Gr.refl _).alloc (.cells zeroEx.toArray 41))
 have hS:=(blkE_at (w:=w.alloc (.cells #[.map (some b1),v2] 79)) (k:=w.heap.size+1) (by simp) [.int .i64 1,.string r,.int .i64 q,.int .i64 1,.int .i64 1,.int .i64 1,.bool false] 59).gr ((Gr.refl _).alloc (.cells zeroEx.toArray 41))
 have hB:=blkE_at (w:=(w.alloc (.cells #[.map (some b1),v2] 79)).alloc (.cells #[.int .i64 1,.string r,.int .i64 q,.int .i64 1,.int .i64 1,.int .i64 1,.bool false] 59)) (k:=w.heap.size+1+1) (by simp) zeroEx 41
 have hg0:Gr w (((w.alloc (.cells #[.map (some b1),v2] 79)).alloc (.cells #[.int .i64 1,.string r,.int .i64 q,.int .i64 1,.int .i64 1,.int .i64 1,.bool false] 59)).alloc (.cells zeroEx.toArray 41)):=(((Gr.refl w).alloc _).alloc _).alloc _
 unfold zeroEx at hI hS hB hg0
 replace hk8:=Lib.hid hk8
 replace hL8:=Lib.hid hL8
 replace hL:=Lib.hid hL
 have q1:decide (i<0)=false:=decide_eq_false (by omega)
 have q2:decide (5000≤i)=false:=decide_eq_false (by omega)
 go_enter Tryz.func103,Tryz.ntmps103
 go_upto_region 1 with fail
 generalize ((w.alloc (.cells #[.map (some b1),v2] 79)).alloc (.cells #[.int .i64 1,.string r,.int .i64 q,.int .i64 1,.int .i64 1,.int .i64 1,.bool false] 59)).alloc (.cells #[.int .i64 0,.string ⟨#[]⟩,.int .i64 0,.int .i64 0,.int .i64 0,.int .i64 0,.string ⟨#[]⟩,.slice none 0 0] 41)=W at *
 obtain⟨n1,D1,hM,hat⟩:=hF.gr hg0
 have hlk:=MapO.look hM Tryz.underlying76 (zeroI64 _) (by unfold maxLen;omega) hat
 have z0:=hI.lt
 have z1:=(hI.cel.2 0 _ rfl).1
 have y0:=hS.lt
 have y1:=(hS.cel.2 0 _ rfl).1
 have y2:=(hS.cel.2 1 _ rfl).1
 have st:=stB hB (l:=L) (by rw [hL8.out];rfl) hLo
 have hlt:=hB.lt
 have hb2:=blk_set hB L
 have ld2:=ldB hLk hb2
 have hg2:=gr_setRow hg0 (g:=w.heap.size+1+1) (by omega) L.toArray
 clear hB hb2
 go_wp2_with (refine wpList_buildTo rfl 41 #[(0,.const (.int .i64 1)),(1,.tmp 28),(2,.tmp 29)] rfl (some 30) rfl L.toArray (by rw [← hL.out];kernel_rfl) ?_)
 simp [bodyPost,results,Tryz.results103,go_sem,aE,zE,ld2]
 exact hg2
set_option maxRecDepth 20000 in
set_option maxHeartbeats 8000000 in
theorem pict_src (k:Nat) (hk8:8=k) (b1:Nat) (v2:Value) (hv2:v2.oneCell'=true) (r:ByteArray) (q j:Int) (w:World) (hr:r.size≤1000000) (hF:FrR w b1 r) (hq:0≤q∧q≤1099511627776) (hj:0≤j∧j≤2147483647) (hi:q+j<5000) :
  Calls Tryz.prog 73 #[.agg #[.map (some b1),v2],.agg #[.int .i64 1,.string r,.int .i64 q,.int .i64 1,.int .i64 1,.int .i64 1,.bool false,.int .i64 1,.int .i64 q,.int .i64 1],.int .i64 j] w fun e w'=>e=.returned (.agg (lfC (.src r (q+j)) nilE).toArray)∧Gr w w':=by
 have aE:∀ w,(isAgg 41).run Tryz.prog w=.ok true w:=Tryz.isAgg41
 have zE:∀ w,(Go.sizeOf 41).run Tryz.prog w=.ok k w:=fun w=>by rw [← hk8];exact Tryz.sizeOf41 w
 have HS:Hid (∀ w',Gr w w'→Calls Tryz.prog 103 #[.agg #[.map (some b1),v2],.agg #[.int .i64 1,.string r,.int .i64 q,.int .i64 1,.int .i64 1,.int .i64 1,.bool false],.int .i64 (q+j)] w' fun e w''=>e=.returned (.agg (lfC (.src r (q+j)) nilE).toArray)∧Gr w' w''):=Lib.hid fun w' hg=>sframe_core 8 rfl b1 v2 hv2 r q (q+j) w' hr (hF.gr hg) (by omega)
 obtain⟨P,hP⟩:∃ P,q+j=P:=⟨_,rfl⟩
 obtain⟨L,hL⟩:∃ L,lfC (.src r (q+j)) nilE=L:=⟨_,rfl⟩
 have hL8:L.length=8:=by rw [← hL];rfl
 have hLo:∀ v∈L,v.oneCell'=true:=by rw [← hL];exact exC_one _ _ _ _ _ _ _ _ _ _
 have hLk:L.length=k:=by rw [hL8,hk8]
 rw [hL] at HS ⊢
 rw [hP] at HS
 have hI:=((Blk.new w [.map (some b1),v2] 79).gr ((Gr.refl _).alloc (.cells #[.int .i64 1,.string r,.int .i64 q,.int .i64 1,.int .i64 1,.int .i64 1,.bool false,.int .i64 1,.int .i64 q,.int .i64 1] 109))).gr ((Gr.refl _).alloc (.cells #[.int .i64 0,.string ⟨#[]⟩,.int .i64 0,.int .i64 0,.int .i64 0,.int .i64 0,.string ⟨#[]⟩,.slice none 0 0] 41))
 have hS:=(blkE_at (w:=w.alloc (.cells #[.map (some b1),v2] 79)) (k:=w.heap.size+1) (by simp) [.int .i64 1,.string r,.int .i64 q,.int .i64 1,.int .i64 1,.int .i64 1,.bool false,.int .i64 1,.int .i64 q,.int .i64 1] 109).gr ((Gr.refl _).alloc (.cells #[.int .i64 0,.string ⟨#[]⟩,.int .i64 0,.int .i64 0,.int .i64 0,.int .i64 0,.string ⟨#[]⟩,.slice none 0 0] 41))
 have hB:=blkE_at (w:=(w.alloc (.cells #[.map (some b1),v2] 79)).alloc (.cells #[.int .i64 1,.string r,.int .i64 q,.int .i64 1,.int .i64 1,.int .i64 1,.bool false,.int .i64 1,.int .i64 q,.int .i64 1] 109)) (k:=w.heap.size+1+1) (by simp) zeroEx 41
 have hg0:Gr w (((w.alloc (.cells #[.map (some b1),v2] 79)).alloc (.cells #[.int .i64 1,.string r,.int .i64 q,.int .i64 1,.int .i64 1,.int .i64 1,.bool false,.int .i64 1,.int .i64 q,.int .i64 1] 109)).alloc (.cells #[.int .i64 0,.string ⟨#[]⟩,.int .i64 0,.int .i64 0,.int .i64 0,.int .i64 0,.string ⟨#[]⟩,.slice none 0 0] 41)):=(((Gr.refl w).alloc _).alloc _).alloc _
 unfold zeroEx at hB
 replace hk8:=Lib.hid hk8
 replace hL8:=Lib.hid hL8
 replace hL:=Lib.hid hL
 go_enter Tryz.func73,Tryz.ntmps73
 go_upto_region 1 with fail
 generalize ((w.alloc (.cells #[.map (some b1),v2] 79)).alloc (.cells #[.int .i64 1,.string r,.int .i64 q,.int .i64 1,.int .i64 1,.int .i64 1,.bool false,.int .i64 1,.int .i64 q,.int .i64 1] 109)).alloc (.cells #[.int .i64 0,.string ⟨#[]⟩,.int .i64 0,.int .i64 0,.int .i64 0,.int .i64 0,.string ⟨#[]⟩,.slice none 0 0] 41)=W at *
 have y0:=hS.lt
 have y1:=(hS.cel.2 0 _ rfl).1
 have y2:=(hS.cel.2 8 _ rfl).1
 have y3:=(hS.cel.2 9 _ rfl).1
 go_upto_region 4 with fail
 clear y0 y1 y2 y3
 have hI1:=hI.gr ((Gr.refl W).drew)
 have hS1:=hS.gr ((Gr.refl W).drew)
 have hB1:=hB.gr ((Gr.refl W).drew)
 have hg1:=hg0.trans ((Gr.refl W).drew)
 refine wp_region_still (Keep 8 (fun x=>Blk x (w.heap.size+1) 109 [.int .i64 1,.string r,.int .i64 q,.int .i64 1,.int .i64 1,.int .i64 1,.bool false,.int .i64 1,.int .i64 q,.int .i64 1])) 10 rfl (by as_aux_lemma=>kernel_rfl) ?_
 show stillAny _ _ _ _ _ _ #[false,false,false,false,false,false,false,false,false,false] _ _
 generalize W.drew=w1 at *
 have wP:IntKind.i64.wrap P=P:=by rw [IntKind.wrap_i64];omega
 have wP2:IntKind.i64.wrap 0=0:=by decide
 clear hI hS hB hg0
 refine still_pure 0 (v:=.int .i64 P) rfl (by as_aux_lemma=>kernel_rfl) (by as_aux_lemma=>kernel_rfl) (by as_aux_lemma=>kernel_rfl) (fun _=>hS1) rfl (fun w hw=>?_) ?_
 ·(try replace hw:=hw (by decide))
  (try have hq0:=hw.lt)
  (try have hq1:=(hw.cel.2 7 _ rfl).1)
  (try simp at hq0 hq1)
  first | (simp [execOp,go_sem,hq0,hq1];done) | (simp [execOp,go_sem];done)
 simp only [Act.put,zG,zH,zK,zI,zS,zZ]
 refine still_pure 1 (v:=.pointer (some ⟨w.heap.size+1,7,none⟩)) rfl (by as_aux_lemma=>kernel_rfl) (by as_aux_lemma=>kernel_rfl) (by as_aux_lemma=>kernel_rfl) (fun _=>hS1) rfl (fun w hw=>?_) ?_
 ·(try replace hw:=hw (by decide))
  (try have hq0:=hw.lt)
  (try have hq1:=(hw.cel.2 7 _ rfl).1)
  (try simp at hq0 hq1)
  first | (simp [execOp,go_sem,hq0,hq1];done) | (simp [execOp,go_sem];done)
 simp only [Act.put,zG,zH,zK,zI,zS,zZ]
 refine still_pure 2 (v:=.int .i64 1) rfl (by as_aux_lemma=>kernel_rfl) (by as_aux_lemma=>kernel_rfl) (by as_aux_lemma=>kernel_rfl) (fun _=>hS1) rfl (fun w hw=>?_) ?_
 ·(try replace hw:=hw (by decide))
  (try have hq0:=hw.lt)
  (try have hq1:=(hw.cel.2 7 _ rfl).1)
  (try simp at hq0 hq1)
  first | (simp [execOp,go_sem,hq0,hq1];done) | (simp [execOp,go_sem];done)
 simp only [Act.put,zG,zH,zK,zI,zS,zZ]
 refine still_pure 3 (v:=.int .i64 P) rfl (by as_aux_lemma=>kernel_rfl) (by as_aux_lemma=>kernel_rfl) (by as_aux_lemma=>kernel_rfl) (fun _=>hS1) rfl (fun w hw=>?_) ?_
 ·(try replace hw:=hw (by decide))
  (try have hq0:=hw.lt)
  (try have hq1:=(hw.cel.2 7 _ rfl).1)
  (try simp at hq0 hq1)
  first | (simp [execOp,go_sem,hq0,hq1,wP];done) | (simp [execOp,go_sem,wP];done)
 simp only [Act.put,zG,zH,zK,zI,zS,zZ]
 refine still_pure 4 (v:=.int .i64 P) rfl (by as_aux_lemma=>kernel_rfl) (by as_aux_lemma=>kernel_rfl) (by as_aux_lemma=>kernel_rfl) (fun _=>hS1) rfl (fun w hw=>?_) ?_
 ·(try replace hw:=hw (by decide))
  (try have hq0:=hw.lt)
  (try have hq1:=(hw.cel.2 7 _ rfl).1)
  (try simp at hq0 hq1)
  first | (simp [execOp,go_sem,hq0,hq1];done) | (simp [execOp,go_sem];done)
 simp only [Act.put,zG,zH,zK,zI,zS,zZ]
 refine still_pure 5 (v:=.pointer (some ⟨w.heap.size+1,7,none⟩)) rfl (by as_aux_lemma=>kernel_rfl) (by as_aux_lemma=>kernel_rfl) (by as_aux_lemma=>kernel_rfl) (fun _=>hS1) rfl (fun w hw=>?_) ?_
 ·(try replace hw:=hw (by decide))
  (try have hq0:=hw.lt)
  (try have hq1:=(hw.cel.2 7 _ rfl).1)
  (try simp at hq0 hq1)
  first | (simp [execOp,go_sem,hq0,hq1];done) | (simp [execOp,go_sem];done)
 simp only [Act.put,zG,zH,zK,zI,zS,zZ]
 refine still_pure 6 (v:=.int .i64 1) rfl (by as_aux_lemma=>kernel_rfl) (by as_aux_lemma=>kernel_rfl) (by as_aux_lemma=>kernel_rfl) (fun _=>hS1) rfl (fun w hw=>?_) ?_
 ·(try replace hw:=hw (by decide))
  (try have hq0:=hw.lt)
  (try have hq1:=(hw.cel.2 7 _ rfl).1)
  (try simp at hq0 hq1)
  first | (simp [execOp,go_sem,hq0,hq1];done) | (simp [execOp,go_sem];done)
 simp only [Act.put,zG,zH,zK,zI,zS,zZ]
 refine still_pure 7 (v:=.int .i64 0) rfl (by as_aux_lemma=>kernel_rfl) (by as_aux_lemma=>kernel_rfl) (by as_aux_lemma=>kernel_rfl) (fun _=>hS1) rfl (fun w hw=>?_) ?_
 ·(try replace hw:=hw (by decide))
  (try have hq0:=hw.lt)
  (try have hq1:=(hw.cel.2 7 _ rfl).1)
  (try simp at hq0 hq1)
  first | (simp [execOp,go_sem,hq0,hq1,wP2];done) | (simp [execOp,go_sem,wP2];done)
 simp only [Act.put,zG,zH,zK,zI,zS,zZ]
 refine still_next (j:=8) (by as_aux_lemma=>kernel_rfl) (by rfl) (fun R hR=>?_)
 (try simp only [zG,zH,zK])
 go_wp2_with fail
 refine only_normal (hR _ _ (Keep.step (fun h=>h)) ?_)
 clear hR R
 simp only [Act.put,zI,zS,zZ]
 refine still_next (j:=9) (by as_aux_lemma=>kernel_rfl) (by rfl) (fun R hR=>?_)
 (try simp only [zG,zH,zK])
 go_wp2_with fail
 refine only_normal (hR _ _ (Keep.last (by as_aux_lemma=>kernel_rfl)) ?_)
 clear hR R
 simp only [Act.put,zI,zS,zZ]
 refine still_done (by as_aux_lemma=>kernel_rfl) ?_
 (try simp only [zG,zH,zK,zI,zS,zZ])
 have z0:=hI1.lt
 have z1:=(hI1.cel.2 0 _ rfl).1
 have z2:=(hI1.cel.2 1 _ rfl).1
 have y0:=hS1.lt
 have x0:=(hS1.cel.2 0 _ rfl).1
 have x1:=(hS1.cel.2 1 _ rfl).1
 have x2:=(hS1.cel.2 2 _ rfl).1
 have x3:=(hS1.cel.2 3 _ rfl).1
 have x4:=(hS1.cel.2 4 _ rfl).1
 have x5:=(hS1.cel.2 5 _ rfl).1
 have x6:=(hS1.cel.2 6 _ rfl).1
 go_wp2_with (go_at_call 103;(with_reducible refine (HS.out _ hg1).mono ?_);rintro e w2 ⟨rfl,hg2⟩;have hB2:=hB1.gr hg2;have st:=stB hB2 (by rw [hL8.out];rfl) hLo)
 have hb3:=blk_set hB2 L
 have ld3:=ldB hLk hb3
 have hg3:=gr_setRow (hg1.trans hg2) (g:=w.heap.size+1+1) (by omega) L.toArray
 simp [bodyPost,results,Tryz.results73,go_sem,aE,zE,ld3]
 exact hg3
set_option maxRecDepth 20000 in
set_option maxHeartbeats 4000000 in
theorem pict_blk (k:Nat) (hk8:8=k) (v1 v2:Value) (hv1:v1.oneCell'=true) (hv2:v2.oneCell'=true) (j:Int) (w:World) :
  Calls Tryz.prog 73 #[.agg #[v1,v2],.agg #[.int .i64 0,.string noTxE,.int .i64 0,.int .i64 0,.int .i64 0,.int .i64 0,.bool false,.int .i64 0,.int .i64 0,.int .i64 0],.int .i64 j] w fun e w'=>e=.returned (.agg (lfC .blk nilE).toArray)∧Gr w w':=by
 have aE:∀ w,(isAgg 41).run Tryz.prog w=.ok true w:=Tryz.isAgg41
 have zE:∀ w,(Go.sizeOf 41).run Tryz.prog w=.ok k w:=fun w=>by rw [← hk8];exact Tryz.sizeOf41 w
 obtain⟨L,hL⟩:∃ L,lfC .blk nilE=L:=⟨_,rfl⟩
 have hL8:L.length=8:=by rw [← hL];rfl
 have hLo:∀ v∈L,v.oneCell'=true:=by rw [← hL];exact exC_one _ _ _ _ _ _ _ _ _ _
 have hLk:L.length=k:=by rw [hL8,hk8]
 rw [hL]
 have hS:=(blkE_at (w:=w.alloc (.cells #[v1,v2] 79)) (k:=w.heap.size+1) (by simp) [.int .i64 0,.string noTxE,.int .i64 0,.int .i64 0,.int .i64 0,.int .i64 0,.bool false,.int .i64 0,.int .i64 0,.int .i64 0] 109).gr ((Gr.refl _).alloc (.cells #[.int .i64 0,.string ⟨#[]⟩,.int .i64 0,.int .i64 0,.int .i64 0,.int .i64 0,.string ⟨#[]⟩,.slice none 0 0] 41))
 have hB:=blkE_at (w:=(w.alloc (.cells #[v1,v2] 79)).alloc (.cells #[.int .i64 0,.string noTxE,.int .i64 0,.int .i64 0,.int .i64 0,.int .i64 0,.bool false,.int .i64 0,.int .i64 0,.int .i64 0] 109)) (k:=w.heap.size+1+1) (by simp) zeroEx 41
 have hg0:Gr w (((w.alloc (.cells #[v1,v2] 79)).alloc (.cells #[.int .i64 0,.string noTxE,.int .i64 0,.int .i64 0,.int .i64 0,.int .i64 0,.bool false,.int .i64 0,.int .i64 0,.int .i64 0] 109)).alloc (.cells #[.int .i64 0,.string ⟨#[]⟩,.int .i64 0,.int .i64 0,.int .i64 0,.int .i64 0,.string ⟨#[]⟩,.slice none 0 0] 41)):=(((Gr.refl w).alloc _).alloc _).alloc _
 unfold zeroEx at hB
 replace hk8:=Lib.hid hk8
 replace hL8:=Lib.hid hL8
 replace hL:=Lib.hid hL
 go_enter Tryz.func73,Tryz.ntmps73
 go_upto_region 1 with fail
 generalize ((w.alloc (.cells #[v1,v2] 79)).alloc (.cells #[.int .i64 0,.string noTxE,.int .i64 0,.int .i64 0,.int .i64 0,.int .i64 0,.bool false,.int .i64 0,.int .i64 0,.int .i64 0] 109)).alloc (.cells #[.int .i64 0,.string ⟨#[]⟩,.int .i64 0,.int .i64 0,.int .i64 0,.int .i64 0,.string ⟨#[]⟩,.slice none 0 0] 41)=W at *
 have y0:=hS.lt
 have y1:=(hS.cel.2 0 _ rfl).1
 have st:=stB hB (l:=L) (by rw [hL8.out];rfl) hLo
 have hlt:=hB.lt
 have hb2:=blk_set hB L
 have ld2:=ldB hLk hb2
 have hg2:=gr_setRow hg0 (g:=w.heap.size+1+1) (by omega) L.toArray
 clear hB hb2
 go_wp2_with (refine wpList_buildTo rfl 41 #[] rfl (some 16) rfl L.toArray (by rw [← hL.out];kernel_rfl) ?_)
 simp [bodyPost,results,Tryz.results73,go_sem,aE,zE,ld2]
 exact hg2
theorem pict_any (b1:Nat) (v2:Value) (hv2:v2.oneCell'=true) (r:ByteArray) (q j:Int) (w:World) (hr:r.size≤1000000) (hF:r.size≠0→FrR w b1 r) (hq:0≤q∧q≤1099511627776) (hj:0≤j∧j≤2147483647) (hi:r.size≠0→q+j<5000) :
  Calls Tryz.prog 73 #[.agg #[.map (some b1),v2],.agg (plcC r q).toArray,.int .i64 j] w fun e w'=>e=.returned (.agg (lfC (stL r (q+j)) nilE).toArray)∧Gr w w':=by
 unfold plcC stL
 by_cases h:r.size=0
 ·rw [if_pos h,if_pos h]
  exact pict_blk 8 rfl _ v2 rfl hv2 j w
 ·rw [if_neg h,if_neg h]
  exact pict_src 8 rfl b1 v2 hv2 r q j w hr (hF h) hq hj (hi h)
end Go.Proofs.YtnginfangeikpaaGreatDoor
