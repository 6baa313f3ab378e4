/-
  Contract of reduced of package denote.
  Conditions: the expression lies in memory; it is a leaf, or two leaves mixed.
-/
import Derived.Test.YtnginfangeikpaaGreatDoorShS
import Derived.Laws.CopyRow
namespace Go.Proofs.YtnginfangeikpaaGreatDoor
open Go.RowKit Go.Lib
set_option linter.unusedSimpArgs false
set_option linter.unusedVariables false
theorem stB {w:World} {g:Nat} {t:TypeId} {vs l:List Value} (h:Blk w g t vs) (hl:l.length=vs.length) (h1:∀ v∈l,v.oneCell'=true) :
  Sem.run Tryz.prog (storeCells ⟨g,0,none⟩ l 0) w=.ok () (w.setRow g l.toArray):=by
 have:=run_storeCells_from (P:=Tryz.prog) g t l 0 vs.toArray w h (by simp [hl]) h1
 simpa using this
theorem ldB {w:World} {g k:Nat} {t:TypeId} {l:List Value} (hk:l.length=k) (h:Blk w g t l) :
  Sem.run Tryz.prog (loadCellsFrom ⟨g,0,none⟩ 0 k #[]) w=.ok l.toArray w:=
 ldE (q:=0) hk fun j u hu=>by have:=(h.cel.2 j u hu).1;simpa using this
theorem blk_set {w:World} {g:Nat} {t:TypeId} {vs:List Value} (h:Blk w g t vs) (l:List Value):Blk (w.setRow g l.toArray) g t l:=setRow_heap w g _ _ t _ h
theorem gr_setRow {a w:World} (h:Gr a w) {g:Nat} (hg:a.heap.size≤g) (l:Array Value):Gr a (w.setRow g l):=below_setRow h hg l
def zeroEx:List Value:=[.int .i64 0,.string ⟨#[]⟩,.int .i64 0,.int .i64 0,.int .i64 0,.int .i64 0,.string ⟨#[]⟩,.slice none 0 0]
set_option maxRecDepth 20000 in
set_option maxHeartbeats 4000000 in
theorem reduced_id (k:Nat) (hk8:8=k) (l:List Value) (a:Option Addr) (c:Nat) (hl:l.length=8) (h7:l[7]?=some (.slice a 0 c)) (hone:∀ v∈l,v.oneCell'=true) (w:World) :
  Calls Tryz.prog 75 #[.agg l.toArray] w fun e w'=>e=.returned (.agg l.toArray)∧Gr w w':=by
 have aE:∀ w,(isAgg 41).run Tryz.prog w=.ok true w:=Tryz.isAgg41
 have zE:∀ w,(Go.sizeOf 41).run Tryz.prog w=.ok k w:=fun w=>by rw [← hk8];exact Tryz.sizeOf41 w
 have hlk:l.length=k:=by rw [hl,hk8]
 have hbA:=(Blk.new w l 41).gr ((Gr.refl _).alloc (.cells zeroEx.toArray 41))
 have hbB:=Blk.new (w.alloc (.cells l.toArray 41)) zeroEx 41
 have hg0:Gr w ((w.alloc (.cells l.toArray 41)).alloc (.cells zeroEx.toArray 41)):=((Gr.refl w).alloc _).alloc _
 replace hk8:=Lib.hid hk8
 replace hl:=Lib.hid hl
 go_enter Tryz.func75,Tryz.ntmps75
 go_upto_region 1 with fail
 unfold zeroEx at hbA hbB hg0
 generalize (w.alloc (.cells l.toArray 41)).alloc (.cells #[.int .i64 0,.string ⟨#[]⟩,.int .i64 0,.int .i64 0,.int .i64 0,.int .i64 0,.string ⟨#[]⟩,.slice none 0 0] 41)=W at *
 have z0:=hbA.lt
 have z1:=(hbA.cel.2 7 _ h7).1
 have ld:=ldB hlk hbA
 rw [World.size_alloc] at hbB
 have st:=stB hbB (by rw [hl.out];rfl) hone
 have hb2:=blk_set hbB l
 have ld2:=ldB hlk hb2
 have hg2:=gr_setRow hg0 (g:=w.heap.size+1) (by omega) l.toArray
 clear hbA hbB hb2
 go_wp2
 simp [bodyPost,results,Tryz.results75,go_sem,aE,zE,ld2]
 exact hg2
set_option maxRecDepth 20000 in
set_option maxHeartbeats 4000000 in
theorem reduced_core (k:Nat) (hk8:8=k) (op:Int) (l l1 l2:List Value) (B:Bool) (ba oa c:Nat) (w:World) (hl:l.length=8) (hone:∀ v∈l,v.oneCell'=true) (h0:l[0]?=some (.int .i64 op)) (h7:l[7]?=some (.slice (some ⟨ba,oa,none⟩) 2 c))
  (ho:op≠4) (hba:ba<w.heap.size) (hn1:l1.length=8) (hn2:l2.length=8) (hone1:∀ q∈l1,q.oneCell'=true)
  (ca1:∀ (j:Nat) u,l1[j]?=some u→w.cell? ⟨ba,oa+j,none⟩=some u) (ca2:∀ (j:Nat) u,l2[j]?=some u→w.cell? ⟨ba,oa+8+j,none⟩=some u)
  (hS:Hid (∀ w',Calls Tryz.prog 10 #[.agg l1.toArray,.agg l2.toArray] w' fun e w''=>e=.returned (.bool B)∧Gr w' w'')) :
  Calls Tryz.prog 75 #[.agg l.toArray] w fun e w'=>e=.returned (.agg (if B then l1 else l).toArray)∧Gr w w':=by
 have aE:∀ w,(isAgg 41).run Tryz.prog w=.ok true w:=Tryz.isAgg41
 have zE:∀ w,(Go.sizeOf 41).run Tryz.prog w=.ok k w:=fun w=>by rw [← hk8];exact Tryz.sizeOf41 w
 have hlk:l.length=k:=by rw [hl,hk8]
 have hk1:l1.length=k:=by rw [hn1,hk8]
 have hk2:l2.length=k:=by rw [hn2,hk8]
 have la1:∀ w',Gr w w'→Sem.run Tryz.prog (loadCellsFrom ⟨ba,oa,none⟩ 0 k #[]) w'=.ok l1.toArray w':=fun w' hg=>ldE hk1 fun y u hu=>(hg.cells.1 ba _ hba).trans (ca1 y u hu)
 have la2:∀ w',Gr w w'→Sem.run Tryz.prog (loadCellsFrom ⟨ba,oa+k,none⟩ 0 k #[]) w'=.ok l2.toArray w':=fun w' hg=>ldE hk2 fun y u hu=>(hg.cells.1 ba _ hba).trans (by rw [← hk8];exact ca2 y u hu)
 have hbA:=(Blk.new w l 41).gr ((Gr.refl _).alloc (.cells zeroEx.toArray 41))
 have hbB:=Blk.new (w.alloc (.cells l.toArray 41)) zeroEx 41
 have hg0:Gr w ((w.alloc (.cells l.toArray 41)).alloc (.cells zeroEx.toArray 41)):=((Gr.refl w).alloc _).alloc _
 replace hk8:=Lib.hid hk8
 replace hl:=Lib.hid hl
 replace hn1:=Lib.hid hn1
 replace hn2:=Lib.hid hn2
 have q4:(op == 4)=false:=by simp [ho]
 clear ca1 ca2
 go_enter Tryz.func75,Tryz.ntmps75
 go_upto_region 1 with fail
 unfold zeroEx at hbA hbB hg0
 generalize (w.alloc (.cells l.toArray 41)).alloc (.cells #[.int .i64 0,.string ⟨#[]⟩,.int .i64 0,.int .i64 0,.int .i64 0,.int .i64 0,.string ⟨#[]⟩,.slice none 0 0] 41)=W at *
 have z0:=hbA.lt
 have z1:=(hbA.cel.2 7 _ h7).1
 rw [World.size_alloc] at hbB
 have hbaW:ba<W.heap.size:=Nat.lt_of_lt_of_le hba hg0.size
 go_upto_region 3 with fail
 refine wp_region_gr (by as_aux_lemma=>kernel_rfl) (by as_aux_lemma=>kernel_rfl) (fun hq1 hq2=>?_)
 repeat (first | go_big_quiet_skip | (go_big_quiet_want;go_big_quiet_op;first | go_big_quiet_on | (apply Exists.intro;refine⟨fun _=>?_,?_⟩;(· (first | (go_at_call 10;with_reducible exact gr_call (hS.out _)) | (rw [la1 _ (hg0.trans (GW.h _))];exact⟨rfl,rfl⟩) | (rw [la2 _ (hg0.trans (GW.h _))];exact⟨rfl,rfl⟩)));go_big_quiet_on)))
 refine wpQuiet_nil ?_
 clear hq1 hq2
 rintro w1 ⟨⟨_,hg1⟩,rfl⟩
 obtain⟨hc1,hf1⟩:=hg1.cells
 have hz1:=hg1.size
 (try simp at hz1);(try have hl1_0_0:w.heap.size<w1.heap.size:=by omega);(try have hm1_0_0:w.heap.size≤w1.heap.size:=by omega);(try have hl1_0_1:w.heap.size+1<w1.heap.size:=by omega);(try have hl1_0_2:w.heap.size+2<w1.heap.size:=by omega)
 have hbA1:=hbA.gr hg1
 have hbB1:=hbB.gr hg1
 have hg01:=hg0.trans hg1
 clear hbA hbB z0 z1 hc1 hf1 hz1
 have z0:=hbA1.lt
 have z1:=(hbA1.cel.2 7 _ h7).1
 have z2:=(hbA1.cel.2 0 _ h0).1
 have hbaV:ba<w1.heap.size:=Nat.lt_of_lt_of_le hba hg01.size
 cases B with
 | true=>
  have ld:=la1 w1 hg01
  have st:=stB hbB1 (by rw [hn1.out];rfl) hone1
  have hb2:=blk_set hbB1 l1
  have ld2:=ldB hk1 hb2
  have hg2:=gr_setRow hg01 (g:=w.heap.size+1) (by omega) l1.toArray
  clear hbA1 hbB1 hb2 la1 la2
  go_wp2
  simp [bodyPost,results,Tryz.results75,go_sem,aE,zE,ld2]
  exact hg2
 | false=>
  have ld:=ldB hlk hbA1
  have st:=stB hbB1 (by rw [hl.out];rfl) hone
  have hb2:=blk_set hbB1 l
  have ld2:=ldB hlk hb2
  have hg2:=gr_setRow hg01 (g:=w.heap.size+1) (by omega) l.toArray
  clear hbA1 hbB1 hb2 la1 la2
  go_wp2
  simp [bodyPost,results,Tryz.results75,go_sem,aE,zE,ld2]
  exact hg2
theorem reduced_mx (op num den par:Int) (x y:Lf) (a:Option Addr) (c:Nat) (a1 a2:Value) (w:World) (ho:op≠4) (h1:NoV a1) (h2:NoV a2) (hA:Rd w (.slice a 2 c) 2 8 (lfC x a1 ++ lfC y a2)) :
  Calls Tryz.prog 75 #[.agg (exC op noTxE 0 num den par noTxE (.slice a 2 c)).toArray] w fun e w'=>e=.returned (.agg (if decide (x=y)=true then lfC x a1 else exC op noTxE 0 num den par noTxE (.slice a 2 c)).toArray)∧Gr w w':=by
 obtain⟨ba,oa,rfl,hba,ca1,ca2⟩:=mx_cells hA
 exact reduced_core 8 rfl op (exC op noTxE 0 num den par noTxE (.slice (some ⟨ba,oa,none⟩) 2 c)) (lfC x a1) (lfC y a2) (decide (x=y)) ba oa c w rfl (exC_one _ _ _ _ _ _ _ _ _ _) rfl rfl ho hba rfl rfl
  (by obtain⟨p,q,rfl⟩:=h1.e;exact exC_one _ _ _ _ _ _ _ _ _ _) ca1 ca2 (Lib.hid fun w'=>same_lf x y a1 a2 h1 h2 w')
theorem red_exF {b:Nat} {w:World} {op num den par:Int} {x y:Lf} {g o:Nat} {c:Nat} {a1 a2:Value} (hb:b≤g) (h1:NoV a1) (h2:NoV a2) (hA:Rd w (.slice (some ⟨g,o,none⟩) 2 c) 2 8 (lfC x a1 ++ lfC y a2)) :
  ExF b w (if decide (x=y)=true then lfC x a1 else exC op noTxE 0 num den par noTxE (.slice (some ⟨g,o,none⟩) 2 c)) (redX op num den par x y):=by
 unfold redX
 by_cases hxy:x=y
 ·rw [if_pos hxy,if_pos (decide_eq_true hxy)]
  exact⟨a1,h1,rfl⟩
 ·rw [if_neg hxy,if_neg (by simp [hxy])]
  exact⟨g,o,c,a1,a2,hb,h1,h2,rfl,hA⟩
end Go.Proofs.YtnginfangeikpaaGreatDoor

namespace Go.Proofs.YtnginfangeikpaaGreatDoor
open Go.RowKit Go.Lib
set_option linter.unusedSimpArgs false
set_option linter.unusedVariables false
theorem infoExprA:(Tryz.prog.info? 41).map (fun i=>(i.zero,i.size,i.bytes))=some (some (.agg #[.int .i64 0,.string ⟨#[]⟩,.int .i64 0,.int .i64 0,.int .i64 0,.int .i64 0,.string ⟨#[]⟩,.slice none 0 0]),8,96):=by kernel_rfl
theorem cloneE_nil (w:World) :
  Calls Tryz.prog 77 #[.slice none 0 0] w fun e w'=>e=.returned (.slice none 0 0)∧Gr w w':=by
 have hnil:∀ w,(binOp .eql 39 (.slice none 0 0) (.slice none 0 0)).run Tryz.prog w=.ok (.bool true) w:=fun w=>Lib.run_eql_slice_nil w _ 41 none _ _ _ _ (by as_aux_lemma=>kernel_rfl)
 go_enter Tryz.func77,Tryz.ntmps77
 go_wp2
 go_ret
 exact⟨rfl,(by repeat (first | with_reducible exact Gr.refl _ | with_reducible assumption | refine Gr.setCell ?_ (by first | omega | (simp;done) | (simp;omega)) _ | refine Gr.alloc ?_ _ | refine Gr.drew ?_ | refine Gr.drewN ?_ _ | refine Gr.trans ?_ (by with_reducible assumption)))⟩
theorem cloneE_two (xs:List Value) (ad:Addr) (c:Nat) (w:World) (hA:Rd w (.slice (some ad) 2 c) 2 8 xs) (hone:∀ v∈xs,v.oneCell'=true) :
  Calls Tryz.prog 77 #[.slice (some ad) 2 c] w fun e w'=>∃ g cap sp,e=.returned (.slice (some ⟨g,0,none⟩) 2 cap)∧Gr w w'∧w.heap.size≤g∧Blk w' g 41 (xs ++ sp):=by
 have hnil:∀ w,(binOp .eql 39 (.slice (some ad) 2 c) (.slice none 0 0)).run Tryz.prog w=.ok (.bool false) w:=fun w=>Lib.run_eql_slice_nil w _ 41 (some ad) _ _ _ _ (by as_aux_lemma=>kernel_rfl)
 obtain⟨is,his,hs0,hs1,hs2⟩:=info_parts infoExprA
 have hxl:xs.length=16:=hA.1
 have hA:=Lib.hid hA
 have hxl:=Lib.hid hxl
 go_enter Tryz.func77,Tryz.ntmps77
 go_wp2_with (at_builtin;refine wpList_append_rd rfl (.tmp 5) (.tmp 6) 39 rfl w.heap.size 41 is (.agg #[.int .i64 0,.string ⟨#[]⟩,.int .i64 0,.int .i64 0,.int .i64 0,.int .i64 0,.string ⟨#[]⟩,.slice none 0 0]) 8 96 (by as_aux_lemma=>kernel_rfl) his hs0 hs1 hs2 rfl (by decide) _ _ _ rfl (own_empty w w.heap.size 41 8 (Nat.le_refl _)) _ 2 xs rfl (hA.out.gr ((Gr.refl w).alloc _)) hone ?_ ?_ ?_ ?_;(· decide);(· decide);(· simp);intro lv w2 hown2 hgrow2;have hg2:Gr w w2:=((Gr.refl w).alloc _).grown hgrow2 (fun k hk=>by cases hk;exact Nat.le_refl _);simp only [Nat.zero_add,List.nil_append] at hown2)
 obtain⟨g,cap,cur,rfl,hbase,hblk,hle,hmx,hsz,htk⟩:∃ g cap cur,lv=.slice (some ⟨g,0,none⟩) 2 cap∧w.heap.size≤g∧w2.heap[g]?=some (.cells cur 41 (0,0))∧2≤cap∧cap≤maxLen∧cur.size=cap * 8∧cur.toList.take (2 * 8)=xs:=by
  rcases hown2.2 with ⟨_,h⟩ | h
  ·omega
  ·exact h
 go_ret
 refine⟨g,cap,cur.toList.drop 16,rfl,hg2,hbase,?_⟩
 unfold Blk
 rw [hblk,← htk,List.take_append_drop]
abbrev nilE:Value:=.slice none 0 0
theorem blk_other {w:World} {b:Nat} {T:TypeId} {vs:List Value} (h:Blk w b T vs) {p:Addr} (hp:p.block≠b) (u:Value):Blk (w.setCell p u) b T vs:=by
 unfold Blk
 rw [Below.heap_setCell _ _ _ b (fun e=>hp e.symm)]
 exact h
theorem blk_setRow_other {w:World} {g b:Nat} {t:TypeId} {vs:List Value} (h:Blk w b t vs) (hb:b≠g) (l:Array Value):Blk (w.setRow g l) b t vs:=by
 unfold Blk
 rw [Go.setRow_other w g b l hb]
 exact h
theorem stAt {w:World} {g o:Nat} {t:TypeId} {pre mid post l:List Value} (h:Blk w g t (pre ++ mid ++ post)) (ho:pre.length=o) (hl:l.length=mid.length) (h1:∀ v∈l,v.oneCell'=true) :
  Sem.run Tryz.prog (storeCells ⟨g,o,none⟩ l 0) w=.ok () (w.setRow g (pre ++ l ++ post).toArray):=by
 have:=run_storeCells_at (P:=Tryz.prog) g o t l 0 (pre ++ mid ++ post).toArray w h (by simp;omega) h1
 rw [this]
 congr 3
 subst ho
 simp [hl]
set_option maxRecDepth 20000 in
set_option maxHeartbeats 4000000 in
theorem simple_id (k:Nat) (hk8:8=k) (l:List Value) (hl:l.length=8) (h7:l[7]?=some nilE) (hone:∀ v∈l,v.oneCell'=true) (w:World) :
  Calls Tryz.prog 46 #[.agg l.toArray] w fun e w'=>e=.returned (.agg l.toArray)∧Gr w w':=by
 have aE:∀ w,(isAgg 41).run Tryz.prog w=.ok true w:=Tryz.isAgg41
 have zE:∀ w,(Go.sizeOf 41).run Tryz.prog w=.ok k w:=fun w=>by rw [← hk8];exact Tryz.sizeOf41 w
 have HC:Hid (∀ w',Calls Tryz.prog 77 #[.slice none 0 0] w' fun e w''=>e=.returned (.slice none 0 0)∧Gr w' w''):=Lib.hid fun w'=>cloneE_nil w'
 have HR:Hid (∀ w',Calls Tryz.prog 75 #[.agg l.toArray] w' fun e w''=>e=.returned (.agg l.toArray)∧Gr w' w''):=Lib.hid fun w'=>reduced_id 8 rfl l none 0 hl h7 hone w'
 have hset:l.set 7 nilE=l:=by
  obtain⟨h,e⟩:=List.getElem?_eq_some_iff.1 h7
  rw [← e]
  exact List.set_getElem_self h
 have hlk:l.length=k:=by rw [hl,hk8]
 have hbA:=(Blk.new w l 41).gr ((Gr.refl _).alloc (.cells zeroEx.toArray 41))
 have hbB:=Blk.new (w.alloc (.cells l.toArray 41)) zeroEx 41
 have hg0:Gr w ((w.alloc (.cells l.toArray 41)).alloc (.cells zeroEx.toArray 41)):=((Gr.refl w).alloc _).alloc _
 replace hk8:=Lib.hid hk8
 replace hl:=Lib.hid hl
 replace hset:=Lib.hid hset
 go_enter Tryz.func46,Tryz.ntmps46
 go_upto_region 1 with fail
 unfold zeroEx at hbA hbB hg0
 generalize (w.alloc (.cells l.toArray 41)).alloc (.cells #[.int .i64 0,.string ⟨#[]⟩,.int .i64 0,.int .i64 0,.int .i64 0,.int .i64 0,.string ⟨#[]⟩,.slice none 0 0] 41)=W at *
 rw [World.size_alloc] at hbB
 have z0:=hbA.lt
 have z1:=(hbA.cel.2 7 _ h7).1
 go_upto_region 2 with (go_at_call 77;(with_reducible refine (HC.out _).mono ?_);rintro e w2 ⟨rfl,hg2⟩;have hA2:=hbA.gr hg2;have hB2:=hbB.gr hg2;have y0:=hA2.lt;have y1:=(hA2.cel.2 7 _ h7).1;have y2:=(hA2.cel.2 7 _ h7).2)
 have hA3:=hA2.set 7 nilE
 rw [hset.out] at hA3
 have hB3:=blk_other hB2 (p:=⟨w.heap.size,7,none⟩) (by simp) nilE
 have hg3:Gr w (w2.setCell ⟨w.heap.size,7,none⟩ nilE):=(hg0.trans hg2).setCell (by simp) _
 clear hbA hbB z0 z1 hA2 hB2 y0 y1 y2
 generalize w2.setCell ⟨w.heap.size,7,none⟩ nilE=W3 at *
 have z0:=hA3.lt
 have z1:=(hA3.cel.2 7 _ h7).1
 have ld:=ldB hlk hA3
 go_wp2
 go_loopw [12] (fun i wr=>i=.int .i64 0∧W3=wr) (fun _ _=>0)
 case atStart=>exact⟨rfl,rfl⟩
 case round=>
  obtain⟨rfl,rfl⟩:=hrel
  go_upto_region 7 with fail
  go_wp2_with (go_at_call 75;(with_reducible refine (HR.out _).mono ?_);rintro e w4 ⟨rfl,hg4⟩;have hB4:=hB3.gr hg4;have st:=stB hB4 (by rw [hl.out];rfl) hone)
  have hb2:=blk_set hB4 l
  have ld2:=ldB hlk hb2
  have hg5:=gr_setRow (hg3.trans hg4) (g:=w.heap.size+1) (by omega) l.toArray
  simp [bodyPost,results,Tryz.results46,go_sem,aE,zE,ld2]
  exact hg5
set_option maxRecDepth 20000 in
set_option maxHeartbeats 4000000 in
theorem simple_core (k:Nat) (hk8:8=k) (op num den par:Int) (x y:Lf) (ba oa c:Nat) (w:World) (ho:op≠4) (hA:Rd w (.slice (some ⟨ba,oa,none⟩) 2 c) 2 8 (lfC x nilE ++ lfC y nilE)) :
  Calls Tryz.prog 46 #[.agg (exC op noTxE 0 num den par noTxE (.slice (some ⟨ba,oa,none⟩) 2 c)).toArray] w fun e w'=>∃ cs,e=.returned (.agg cs.toArray)∧Gr w w'∧ExF w.heap.size w' cs (redX op num den par x y):=by
 have aE:∀ w,(isAgg 41).run Tryz.prog w=.ok true w:=Tryz.isAgg41
 have zE:∀ w,(Go.sizeOf 41).run Tryz.prog w=.ok k w:=fun w=>by rw [← hk8];exact Tryz.sizeOf41 w
 obtain⟨lx,hlx⟩:∃ lx,lfC x nilE=lx:=⟨_,rfl⟩
 obtain⟨ly,hly⟩:∃ ly,lfC y nilE=ly:=⟨_,rfl⟩
 have hx8:lx.length=8:=by rw [← hlx];rfl
 have hy8:ly.length=8:=by rw [← hly];rfl
 have hx7:lx[7]?=some nilE:=by rw [← hlx];rfl
 have hy7:ly[7]?=some nilE:=by rw [← hly];rfl
 have hxo:∀ v∈lx,v.oneCell'=true:=by rw [← hlx];exact exC_one _ _ _ _ _ _ _ _ _ _
 have hyo:∀ v∈ly,v.oneCell'=true:=by rw [← hly];exact exC_one _ _ _ _ _ _ _ _ _ _
 rw [hlx,hly] at hA
 have HC:Hid (∀ w',Gr w w'→Calls Tryz.prog 77 #[.slice (some ⟨ba,oa,none⟩) 2 c] w' fun e w''=>∃ g cap sp,e=.returned (.slice (some ⟨g,0,none⟩) 2 cap)∧Gr w' w''∧w'.heap.size≤g∧Blk w'' g 41 (lx ++ ly ++ sp)):=Lib.hid fun w' hg=>cloneE_two (lx ++ ly) _ c w' (hA.gr hg) (fun v hv=>(List.mem_append.1 hv).elim (hxo v) (hyo v))
 have HR:Hid (∀ (w':World) (g cap:Nat),Rd w' (.slice (some ⟨g,0,none⟩) 2 cap) 2 8 (lx ++ ly)→Calls Tryz.prog 75 #[.agg (exC op noTxE 0 num den par noTxE (.slice (some ⟨g,0,none⟩) 2 cap)).toArray] w' fun e w''=>e=.returned (.agg (if decide (x=y)=true then lx else exC op noTxE 0 num den par noTxE (.slice (some ⟨g,0,none⟩) 2 cap)).toArray)∧Gr w' w''):=Lib.hid fun w' g cap h=>by
  rw [← hlx]
  exact reduced_mx op num den par x y _ cap nilE nilE w' ho rfl rfl (by rw [hlx,hly];exact h)
 have HX:Hid (∀ (w':World) (g cap:Nat),w.heap.size≤g→Rd w' (.slice (some ⟨g,0,none⟩) 2 cap) 2 8 (lx ++ ly)→ExF w.heap.size w' (if decide (x=y)=true then lx else exC op noTxE 0 num den par noTxE (.slice (some ⟨g,0,none⟩) 2 cap)) (redX op num den par x y)):=Lib.hid fun w' g cap hb h=>by
  rw [← hlx]
  exact red_exF hb rfl rfl (by rw [hlx,hly];exact h)
 replace hlx:=Lib.hid hlx
 replace hly:=Lib.hid hly
 obtain⟨l,hl⟩:∃ l,exC op noTxE 0 num den par noTxE (.slice (some ⟨ba,oa,none⟩) 2 c)=l:=⟨_,rfl⟩
 have h7:l[7]?=some (.slice (some ⟨ba,oa,none⟩) 2 c):=by rw [← hl];rfl
 have hl8:l.length=8:=by rw [← hl];rfl
 have hone:∀ v∈l,v.oneCell'=true:=by rw [← hl];exact exC_one _ _ _ _ _ _ _ _ _ _
 have hset:Hid (∀ u,l.set 7 u=exC op noTxE 0 num den par noTxE u):=Lib.hid fun u=>by rw [← hl];rfl
 rw [hl]
 have hlk:l.length=k:=by rw [hl8,hk8]
 have hbA:=(Blk.new w l 41).gr ((Gr.refl _).alloc (.cells zeroEx.toArray 41))
 have hbB:=Blk.new (w.alloc (.cells l.toArray 41)) zeroEx 41
 have hg0:Gr w ((w.alloc (.cells l.toArray 41)).alloc (.cells zeroEx.toArray 41)):=((Gr.refl w).alloc _).alloc _
 replace hk8:=Lib.hid hk8
 replace hl:=Lib.hid hl
 replace hl8:=Lib.hid hl8
 replace hx8:=Lib.hid hx8
 replace hy8:=Lib.hid hy8
 clear hA
 go_enter Tryz.func46,Tryz.ntmps46
 go_upto_region 1 with fail
 unfold zeroEx at hbA hbB hg0
 generalize (w.alloc (.cells l.toArray 41)).alloc (.cells #[.int .i64 0,.string ⟨#[]⟩,.int .i64 0,.int .i64 0,.int .i64 0,.int .i64 0,.string ⟨#[]⟩,.slice none 0 0] 41)=W at *
 rw [World.size_alloc] at hbB
 have hWs:w.heap.size+1<W.heap.size:=hbB.lt
 have z0:=hbA.lt
 have z1:=(hbA.cel.2 7 _ h7).1
 go_upto_region 2 with (go_at_call 77;(with_reducible refine (HC.out _ hg0).mono ?_);rintro e w2 ⟨g,cap,sp,rfl,hg2,hge,hG2⟩;have hA2:=hbA.gr hg2;have hB2:=hbB.gr hg2;have y0:=hA2.lt;have y1:=(hA2.cel.2 7 _ h7).1;have y2:=(hA2.cel.2 7 _ h7).2)
 have hA3:=hA2.set 7 (.slice (some ⟨g,0,none⟩) 2 cap)
 rw [hset.out] at hA3
 have hB3:=blk_other hB2 (p:=⟨w.heap.size,7,none⟩) (by simp) (.slice (some ⟨g,0,none⟩) 2 cap)
 have hG3:=blk_other hG2 (p:=⟨w.heap.size,7,none⟩) (by simp;omega) (.slice (some ⟨g,0,none⟩) 2 cap)
 have hg3:Gr w (w2.setCell ⟨w.heap.size,7,none⟩ (.slice (some ⟨g,0,none⟩) 2 cap)):=(hg0.trans hg2).setCell (by simp) _
 clear hbA hbB z0 z1 hA2 hB2 y0 y1 y2 hG2 h7 hlk hone
 generalize w2.setCell ⟨w.heap.size,7,none⟩ (.slice (some ⟨g,0,none⟩) 2 cap)=W3 at *
 obtain⟨m,hm⟩:∃ m,exC op noTxE 0 num den par noTxE (.slice (some ⟨g,0,none⟩) 2 cap)=m:=⟨_,rfl⟩
 have hm7:m[7]?=some (.slice (some ⟨g,0,none⟩) 2 cap):=by rw [← hm];rfl
 have hm8:Hid (m.length=8):=Lib.hid (by rw [← hm];rfl)
 have hmk:m.length=k:=by rw [hm8.out,hk8.out]
 rw [hm] at hA3
 replace hm:=Lib.hid hm
 have z0:=hA3.lt
 have z1:=(hA3.cel.2 7 _ hm7).1
 go_wp2
 go_loopw [12] (fun i wr=>∃ j:Nat,j≤2∧i=.int .i64 j∧Gr w wr∧Blk wr w.heap.size 41 m∧Blk wr (w.heap.size+1) 41 zeroEx∧Blk wr g 41 (lx ++ ly ++ sp)) (fun i _=>2 - (RowKit.intOf i).toNat)
 case atStart=>exact⟨0,by omega,rfl,hg3,hA3,hB3,hG3⟩
 case round=>
  obtain⟨j,hj,rfl,hgr,hA4,hB4,hG4⟩:=hrel
  clear hA3 hB3 hG3 hg3 z0 z1
  by_cases cc:j<2
  ·have q1:decide ((j:Int)<2)=true:=decide_eq_true (by omega)
   have i1:(0:Int)≤(j:Int)∧(j:Int)<2:=by omega
   obtain⟨pre,z,post,hzz,hpl,hz8,hz7,hzo⟩:∃ pre z post,lx ++ ly ++ sp=pre ++ z ++ post∧pre.length=j * 8∧z.length=8∧z[7]?=some nilE∧∀ v∈z,v.oneCell'=true:=by
    rcases (show j=0∨j=1 by omega) with rfl | rfl
    ·exact⟨[],lx,ly ++ sp,by simp,rfl,hx8.out,hx7,hxo⟩
    ·exact⟨lx,ly,sp,rfl,hx8.out,hy8.out,hy7,hyo⟩
   have hS:Hid (∀ w',Calls Tryz.prog 46 #[.agg z.toArray] w' fun e w''=>e=.returned (.agg z.toArray)∧Gr w' w''):=Lib.hid fun w'=>simple_id 8 rfl z hz8 hz7 hzo w'
   have hzk:z.length=k:=by rw [hz8,hk8.out]
   have hpk:pre.length=j * k:=by rw [hpl,← hk8.out]
   rw [hzz] at hG4
   have hlt:=hG4.lt
   have hla:∀ w',Blk w' g 41 (pre ++ z ++ post)→Sem.run Tryz.prog (loadCellsFrom ⟨g,j * k,none⟩ 0 k #[]) w'=.ok z.toArray w':=fun w' hb=>ldE hzk fun q u hu=>by
    have:=(hb.cel.2 (j * k+q) u (by rw [← hpk,List.append_assoc,List.getElem?_append_right (by omega),Nat.add_sub_cancel_left,List.getElem?_append_left (List.getElem?_eq_some_iff.1 hu).1];exact hu)).1
    simpa using this
   have la:=hla wr hG4
   have st:=stE wr z hz8 hzo
   replace hz8:=Lib.hid hz8
   replace hpl:=Lib.hid hpl
   have hbx:=Blk.new wr z 41
   have hgA:Gr wr (wr.alloc (.cells z.toArray 41)):=(Gr.refl wr).alloc _
   have z0:=hA4.lt
   have z1:=(hA4.cel.2 7 _ hm7).1
   clear hx7 hy7 hxo hyo hz7
   go_upto_region 5 with fail
   generalize wr.alloc (.cells z.toArray 41)=W4 at *
   obtain⟨X,hX⟩:∃ X,wr.heap.size=X:=⟨_,rfl⟩
   rw [hX] at hbx ⊢
   clear la st hX z0 z1
   have hA5:=hA4.gr hgA
   have hB5:=hB4.gr hgA
   have hG5:=hG4.gr hgA
   have hgr5:=hgr.trans hgA
   have z0:=hA5.lt
   have z1:=(hA5.cel.2 7 _ hm7).1
   have hX0:=hbx.lt
   have lx2:∀ w',Gr W4 w'→Sem.run Tryz.prog (loadCellsFrom ⟨X,0,none⟩ 0 k #[]) w'=.ok z.toArray w':=fun w' hg=>ldB hzk (hbx.gr hg)
   refine wp_region_gr_tail 5 (by as_aux_lemma=>kernel_rfl) (by as_aux_lemma=>kernel_rfl) (fun hq1 hq2=>?_)
   simp only [List.take_succ_cons,List.take_zero,List.drop_succ_cons,List.drop_zero]
   repeat (first | go_big_quiet_skip | (go_big_quiet_want;go_big_quiet_op;first | go_big_quiet_on | (apply Exists.intro;refine⟨fun _=>?_,?_⟩;(· (first | (go_at_call 46;with_reducible exact gr_call (hS.out _)) | (rw [lx2 _ (GW.h _)];exact⟨rfl,rfl⟩)));go_big_quiet_on)))
   refine wpQuiet_nil ?_
   clear hq1 hq2
   rintro w6 ⟨⟨_,hg6⟩,rfl⟩
   obtain⟨hc6,hf6⟩:=hg6.cells
   have hz6:=hg6.size
   (try simp at hz6);(try have hl6_0_0:w.heap.size<w6.heap.size:=by omega);(try have hm6_0_0:w.heap.size≤w6.heap.size:=by omega);(try have hl6_0_1:w.heap.size+1<w6.heap.size:=by omega);(try have hl6_0_2:w.heap.size+2<w6.heap.size:=by omega);(try have hl6_1_0:w1.heap.size<w6.heap.size:=by omega);(try have hm6_1_0:w1.heap.size≤w6.heap.size:=by omega);(try have hl6_1_1:w1.heap.size+1<w6.heap.size:=by omega);(try have hl6_1_2:w1.heap.size+2<w6.heap.size:=by omega);(try have hl6_2_0:w2.heap.size<w6.heap.size:=by omega);(try have hm6_2_0:w2.heap.size≤w6.heap.size:=by omega);(try have hl6_2_1:w2.heap.size+1<w6.heap.size:=by omega);(try have hl6_2_2:w2.heap.size+2<w6.heap.size:=by omega);(try have hl6_3_0:w3.heap.size<w6.heap.size:=by omega);(try have hm6_3_0:w3.heap.size≤w6.heap.size:=by omega);(try have hl6_3_1:w3.heap.size+1<w6.heap.size:=by omega);(try have hl6_3_2:w3.heap.size+2<w6.heap.size:=by omega);(try have hl6_4_0:w4.heap.size<w6.heap.size:=by omega);(try have hm6_4_0:w4.heap.size≤w6.heap.size:=by omega);(try have hl6_4_1:w4.heap.size+1<w6.heap.size:=by omega);(try have hl6_4_2:w4.heap.size+2<w6.heap.size:=by omega);(try have hl6_5_0:w5.heap.size<w6.heap.size:=by omega);(try have hm6_5_0:w5.heap.size≤w6.heap.size:=by omega);(try have hl6_5_1:w5.heap.size+1<w6.heap.size:=by omega);(try have hl6_5_2:w5.heap.size+2<w6.heap.size:=by omega)
   have hA6:=hA5.gr hg6
   have hB6:=hB5.gr hg6
   have hG6:=hG5.gr hg6
   have st6:=stAt (o:=j * k) hG6 hpk rfl hzo
   have hlt6:=hG6.lt
   clear hc6 hf6 z0 z1
   go_wp2
   have hgW:W.heap.size≤g:=hge
   refine⟨⟨j+1,by omega,by go_num,gr_setRow (hgr5.trans hg6) (by omega) _,blk_setRow_other hA6 (by omega) _,blk_setRow_other hB6 (by omega) _,?_⟩,by simp [RowKit.intOf];omega⟩
   rw [hzz,List.append_assoc]
   exact blk_set hG6 _
  ·have q1:decide ((j:Int)<2)=false:=decide_eq_false (by omega)
   have hRd:Rd wr (.slice (some ⟨g,0,none⟩) 2 cap) 2 8 (lx ++ ly):=⟨by rw [List.length_append,hx8.out,hy8.out],_,_,rfl,.inr ⟨g,0,rfl,hG4.lt,fun q u hu=>by
    have:=(hG4.cel.2 q u (by rw [List.getElem?_append_left (List.getElem?_eq_some_iff.1 hu).1];exact hu)).1
    simpa using this⟩⟩
   have HR2:=HR.out wr g cap hRd
   have hgb:w.heap.size≤g:=by have:W.heap.size≤g:=hge;omega
   have hx4:=HX.out wr g cap hgb hRd
   have HX2:Hid (∀ w',Gr wr w'→ExF w.heap.size (w'.setRow (w.heap.size+1) (if decide (x=y)=true then lx else exC op noTxE 0 num den par noTxE (.slice (some ⟨g,0,none⟩) 2 cap)).toArray) (if decide (x=y)=true then lx else exC op noTxE 0 num den par noTxE (.slice (some ⟨g,0,none⟩) 2 cap)) (redX op num den par x y)):=Lib.hid fun w' hg=>by
    refine HX.out _ g cap hgb ?_
    have hGw:=blk_setRow_other (hG4.gr hg) (g:=w.heap.size+1) (by have:W.heap.size≤g:=hge;omega) (if decide (x=y)=true then lx else exC op noTxE 0 num den par noTxE (.slice (some ⟨g,0,none⟩) 2 cap)).toArray
    exact⟨hRd.1,_,_,rfl,.inr ⟨g,0,rfl,hGw.lt,fun q u hu=>by
     have:=(hGw.cel.2 q u (by rw [List.getElem?_append_left (List.getElem?_eq_some_iff.1 hu).1];exact hu)).1
     simpa using this⟩⟩
   rw [hm.out] at HR2 HX2 hx4
   generalize (if decide (x=y)=true then lx else m)=rs at HR2 HX2 hx4
   have hr8:=hx4.r.len
   have hro:=hx4.r.one
   have hrk:rs.length=k:=by rw [hr8,hk8.out]
   replace hr8:=Lib.hid hr8
   replace HR2:=Lib.hid HR2
   have z0:=hA4.lt
   have ld:=ldB hmk hA4
   clear hx4
   go_wp2_with (go_at_call 75;(with_reducible refine HR2.out.mono ?_);rintro e w5 ⟨rfl,hg5⟩;have hB5:=hB4.gr hg5;have st:=stB hB5 hr8.out hro)
   have hb2:=blk_set hB5 rs
   have ld2:=ldB hrk hb2
   have hg6:=gr_setRow (hgr.trans hg5) (g:=w.heap.size+1) (by omega) rs.toArray
   simp [bodyPost,results,Tryz.results46,go_sem,aE,zE,ld2]
   exact⟨hg6,HX2.out _ hg5⟩
theorem simple_mx (op num den par:Int) (x y:Lf) (a:Option Addr) (c:Nat) (w:World) (ho:op≠4) (hA:Rd w (.slice a 2 c) 2 8 (lfC x nilE ++ lfC y nilE)) :
  Calls Tryz.prog 46 #[.agg (exC op noTxE 0 num den par noTxE (.slice a 2 c)).toArray] w fun e w'=>∃ cs,e=.returned (.agg cs.toArray)∧Gr w w'∧ExF w.heap.size w' cs (redX op num den par x y):=by
 obtain⟨ba,oa,rfl,_,_,_⟩:=mx_cells hA
 exact simple_core 8 rfl op num den par x y ba oa c w ho hA
end Go.Proofs.YtnginfangeikpaaGreatDoor
