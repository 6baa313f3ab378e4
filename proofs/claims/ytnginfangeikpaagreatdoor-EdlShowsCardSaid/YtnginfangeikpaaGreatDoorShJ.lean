/-
  Contract of layerOf of package denote.
  Conditions: the track lies in memory; its clips are of reels.
-/
import Derived.Test.YtnginfangeikpaaGreatDoorShI
import Derived.Test.YtnginfangeikpaaGreatDoorWalkTd
import Derived.Test.YtnginfangeikpaaGreatDoorMem
namespace Go.Proofs.YtnginfangeikpaaGreatDoor
open Go.RowKit Go.Lib
set_option linter.unusedSimpArgs false
set_option linter.unusedVariables false
theorem infoI64z:(Tryz.prog.info? 2).map (fun i=>(i.zero,i.size,i.bytes))=some (some (.int .i64 0),1,8):=by kernel_rfl
def plz:List Value:=[.int .i64 0,.string ⟨#[]⟩,.int .i64 0,.int .i64 0,.int .i64 0,.int .i64 0,.bool false,.int .i64 0,.int .i64 0,.int .i64 0]
theorem infoPl2:(Tryz.prog.info? 110).map (fun i=>(i.zero,i.size,i.bytes))=some (some (.agg (plz ++ plz).toArray),20,176):=by kernel_rfl
theorem infoLay:(Tryz.prog.info? 103).map (·.size)=some 3:=by kernel_rfl
theorem list10 {l:List Value} (h:l.length=10):∃ x0 x1 x2 x3 x4 x5 x6 x7 x8 x9,l=[x0,x1,x2,x3,x4,x5,x6,x7,x8,x9]:=by
 match l,h with
 | [x0,x1,x2,x3,x4,x5,x6,x7,x8,x9],_=>exact⟨x0,x1,x2,x3,x4,x5,x6,x7,x8,x9,rfl⟩
theorem builtPl {pa pb:List Value} (ha:pa.length=10) (hb:pb.length=10):Tryz.prog.built 110 [(0,.agg pa.toArray),(1,.agg pb.toArray)]=some (pa ++ pb).toArray:=by
 obtain⟨x0,x1,x2,x3,x4,x5,x6,x7,x8,x9,rfl⟩:=list10 ha
 obtain⟨y0,y1,y2,y3,y4,y5,y6,y7,y8,y9,rfl⟩:=list10 hb
 kernel_rfl
theorem own_not_blk {w:World} {base size n b:Nat} {e T:TypeId} {v:Value} {xs vs:List Value} (h:w.ownsRow base e size v n xs) (hb:Blk w b T vs) (hT:T≠e):v.ownBlock≠some b:=fun hk=>by
 rcases h.2 with ⟨rfl,_⟩ | ⟨g,cap,cur,rfl,_,hg,_⟩
 ·simp [Value.ownBlock] at hk
 ·have hkg:g=b:=by simpa [Value.ownBlock] using hk
  subst hkg
  unfold Blk at hb
  rw [hg] at hb
  injection hb with hb
  injection hb with _ h2 _
  exact hT h2.symm
theorem own_not_own {w:World} {b1 b2 s1 s2 n1 n2:Nat} {e1 e2:TypeId} {v1 v2:Value} {x1 x2:List Value} (h1:w.ownsRow b1 e1 s1 v1 n1 x1) (h2:w.ownsRow b2 e2 s2 v2 n2 x2) (hT:e1≠e2):v1.ownBlock=none∨v1.ownBlock≠v2.ownBlock:=by
 rcases (Far.row (base:=b2) h1 hT).ne h2 with h | h
 ·exact .inr h
 ·exact .inl h
theorem stNewL (w:World) (l:List Value) (hl:l.length=3) (h1:∀ v∈l,v.oneCell'=true):Sem.run Tryz.prog (storeCells ⟨w.heap.size,0,none⟩ l 0) (w.alloc (.cells #[.slice none 0 0,.slice none 0 0,.slice none 0 0] 103))=.ok () (w.alloc (.cells l.toArray 103)):=
 st_new w _ _ l (by rw [hl];exact infoLay) (by rw [hl];rfl) h1
set_option maxRecDepth 20000 in
set_option maxHeartbeats 8000000 in
theorem layer_core (k3 kc k7:Nat) (hk3:3=k3) (hkc:22=kc) (hk7:7=k7) (N:Nat) (at_:Option Addr) (ct:Nat) (ts:List CM) (w:World) (hN:ts.length=N) (hN64:N≤64) (hT:TrR w (.slice at_ N ct) ts)
  (hlen:∀ c∈ts.map CM.c,0≤c.len) (htot:tot (ts.map CM.c)≤2147483647)
  (HPl:Hid (∀ c∈ts.map CM.c,∀ w',Calls Tryz.prog 72 #[.agg c.a.cells.toArray] w' (fun e w''=>e=.returned (.agg (plcOf c.a).toArray)∧Gr w' w'')∧Calls Tryz.prog 72 #[.agg c.b.cells.toArray] w' (fun e w''=>e=.returned (.agg (plcOf c.b).toArray)∧Gr w' w''))) :
  Calls Tryz.prog 40 #[.slice at_ N ct] w fun e w'=>∃ ev pv,e=.returned (.agg #[.slice at_ N ct,ev,pv])∧Gr w w'∧Rd w' ev N 1 ((endsC 0 (ts.map CM.c)).map (Value.int .i64))∧Rd w' pv N 20 (plsC (ts.map CM.c))∧(∀ k,ev.ownBlock=some k→w.heap.size≤k)∧(∀ k,pv.ownBlock=some k→w.heap.size≤k):=by
 have aC:∀ w,(isAgg 61).run Tryz.prog w=.ok true w:=Tryz.isAgg61
 have zC:∀ w,(Go.sizeOf 61).run Tryz.prog w=.ok kc w:=fun w=>by rw [← hkc];exact Tryz.sizeOf61 w
 have aL:∀ w,(isAgg 103).run Tryz.prog w=.ok true w:=Tryz.isAgg103
 have zL:∀ w,(Go.sizeOf 103).run Tryz.prog w=.ok k3 w:=fun w=>by rw [← hk3];exact Tryz.sizeOf103 w
 have aS:∀ w,(isAgg 59).run Tryz.prog w=.ok true w:=Tryz.isAgg59
 have zS:∀ w,(Go.sizeOf 59).run Tryz.prog w=.ok k7 w:=fun w=>by rw [← hk7];exact Tryz.sizeOf59 w
 have hk70:¬ k7=0:=by omega
 obtain⟨i8,hi8,hi80,hi81,hi82⟩:=info_parts infoI64z
 obtain⟨ip,hip,hip0,hip1,hip2⟩:=info_parts infoPl2
 obtain⟨a',cap',he,ha⟩:=hT.shape
 injection he with e1 e2 e3
 subst e1
 clear e2 e3 cap'
 have hch:=hT.ch
 replace hch:=Lib.hid hch
 replace ha:=Lib.hid ha
 replace hk3:=Lib.hid hk3
 replace hkc:=Lib.hid hkc
 replace hk7:=Lib.hid hk7
 have hZ:=(Blk.new w [.slice none 0 0,.slice none 0 0,.slice none 0 0] 103)
 obtain⟨L0,hL0⟩:∃ l,[Value.slice at_ N ct,.slice none 0 0,.slice none 0 0]=l:=⟨_,rfl⟩
 have hL03:L0.length=3:=by rw [← hL0];rfl
 have hL0o:∀ v∈L0,v.oneCell'=true:=by
  rw [← hL0]
  intro v hv
  simp only [List.mem_cons,List.not_mem_nil,or_false] at hv
  rcases hv with rfl | rfl | rfl <;> rfl
 have hL0k:L0.length=k3:=by rw [hL03,hk3.out]
 have hg0:Gr w (w.alloc (.cells #[.slice none 0 0,.slice none 0 0,.slice none 0 0] 103)):=(Gr.refl w).alloc _
 go_enter Tryz.func40,Tryz.ntmps40
 go_upto_region 1 with fail
 have hWs:(w.alloc (.cells #[.slice none 0 0,.slice none 0 0,.slice none 0 0] 103)).heap.size=w.heap.size+1:=by simp
 generalize w.alloc (.cells #[.slice none 0 0,.slice none 0 0,.slice none 0 0] 103)=W at *
 have st:=stNewL W L0 hL03 hL0o
 have hX:=blkE_at hWs L0 103
 have gX:=(Gr.refl W).alloc (.cells L0.toArray 103)
 rw [hWs] at st
 replace hL0:=Lib.hid hL0
 replace hL03:=Lib.hid hL03
 go_upto_region 2 with (refine wpList_buildTo rfl 103 #[(0,.tmp 7)] rfl (some 8) rfl L0.toArray (by rw [← hL0.out];kernel_rfl) ?_)
 have hZ1:=hZ.gr gX
 have hg1:=hg0.trans gX
 have hWl:(W.alloc (.cells L0.toArray 103)).heap.size=w.heap.size+1+1:=by rw [World.size_alloc,hWs]
 clear st hZ hg0 gX hWs
 generalize W.alloc (.cells L0.toArray 103)=W1 at *
 rw [← hL0.out] at hX
 clear W
 go_wp2
 go_loopw [4,11] (fun en i wr=>∃ (j:Nat) (ev pv:Value),j≤N∧en=.int .i64 (tot ((ts.map CM.c).take j))∧i=.int .i64 j∧Gr w wr∧Blk wr w.heap.size 103 [.slice none 0 0,.slice none 0 0,.slice none 0 0]∧Blk wr (w.heap.size+1) 103 [.slice at_ N ct,ev,pv]∧wr.ownsRow (w.heap.size+1+1) 2 1 ev j ((endsC 0 ((ts.map CM.c).take j)).map (Value.int .i64))∧wr.ownsRow (w.heap.size+1+1) 110 20 pv j (plsC ((ts.map CM.c).take j))) (fun _ i _=>N - (RowKit.intOf i).toNat)
 case atStart=>exact⟨0,_,_,Nat.zero_le _,rfl,rfl,hg1,hZ1,hX,World.ownsRow_nil _ _ _ _,World.ownsRow_nil _ _ _ _⟩
 case round=>
  obtain⟨j,ev,pv,hj,rfl,rfl,hg,hZr,hXr,hOe,hOp⟩:=hrel
  clear hX hZ1 hg1
  by_cases c1:j<N
  ·have q1:decide ((j:Int)<(N:Int))=true:=decide_eq_true (by omega)
   rcases ha.out with h0 | ⟨cb,co,rfl,hcb,hcc⟩
   ·omega
   have hjt:j<ts.length:=by omega
   have hcell:∀ (x:Nat) (u:Value),ts[j].cells[x]?=some u→wr.cell? ⟨cb,co+j * 22+x,none⟩=some u:=fun x u hu=>(hg.cells.1 cb _ hcb).trans (hcc j hjt x u hu)
   have hcr:cb<wr.heap.size:=Nat.lt_of_lt_of_le hcb hg.size
   have hone:=(hch.out _ (List.getElem_mem hjt)).one
   have hmem:ts[j].c∈ts.map CM.c:=List.mem_map.2 ⟨_,List.getElem_mem hjt,rfl⟩
   have hPj:=Lib.hid (HPl.out _ hmem)
   have hlj:=hlen _ hmem
   have htk:(ts.map CM.c).take (j+1)=(ts.map CM.c).take j ++ [ts[j].c]:=by
    rw [← List.take_append_getElem (by rw [List.length_map];exact hjt),List.getElem_map]
   have hto:0≤tot ((ts.map CM.c).take j)∧tot ((ts.map CM.c).take j)+ts[j].c.len≤2147483647:=by
    have h1:=tot_pos (a:=(ts.map CM.c).take j) (fun c hc=>hlen c (List.mem_of_mem_take hc))
    have h2:=tot_pos (a:=(ts.map CM.c).drop (j+1)) (fun c hc=>hlen c (List.mem_of_mem_drop hc))
    have h3:tot ((ts.map CM.c).take (j+1) ++ (ts.map CM.c).drop (j+1))≤2147483647:=by rw [List.take_append_drop];exact htot
    rw [tot_append,htk,tot_append] at h3
    have h4:tot [ts[j].c]=ts[j].c.len+0:=rfl
    omega
   have hes:(endsC 0 ((ts.map CM.c).take (j+1))).map (Value.int .i64)=(endsC 0 ((ts.map CM.c).take j)).map (Value.int .i64) ++ [.int .i64 (tot ((ts.map CM.c).take j)+ts[j].c.len)]:=by
    rw [htk,endsC_snoc,List.map_append,Int.zero_add]
    rfl
   have hps:plsC ((ts.map CM.c).take (j+1))=plsC ((ts.map CM.c).take j) ++ (plcOf ts[j].c.a ++ plcOf ts[j].c.b):=by
    rw [htk]
    unfold plsC
    rw [List.flatMap_append]
    simp
   have htt:tot ((ts.map CM.c).take (j+1))=tot ((ts.map CM.c).take j)+ts[j].c.len:=by
    rw [htk,tot_append]
    show _+(ts[j].c.len+0)=_
    omega
   have hREL:=fun (wz:World) (ev2 pv2:Value) (h1:Gr w wz) (h2:Blk wz w.heap.size 103 [.slice none 0 0,.slice none 0 0,.slice none 0 0]) (h3:Blk wz (w.heap.size+1) 103 [.slice (some ⟨cb,co,none⟩) N ct,ev2,pv2]) (h4:wz.ownsRow (w.heap.size+1+1) 2 1 ev2 (j+1) ((endsC 0 ((ts.map CM.c).take (j+1))).map (Value.int .i64))) (h5:wz.ownsRow (w.heap.size+1+1) 110 20 pv2 (j+1) (plsC ((ts.map CM.c).take (j+1))))=>(⟨j+1,ev2,pv2,by omega,rfl,rfl,h1,h2,h3,h4,h5⟩:∃ (j2:Nat) (ev pv:Value),j2≤N∧Value.int .i64 (tot ((ts.map CM.c).take (j+1)))=.int .i64 (tot ((ts.map CM.c).take j2))∧Value.int .i64 ((j+1:Nat):Int)=.int .i64 j2∧Gr w wz∧Blk wz w.heap.size 103 [.slice none 0 0,.slice none 0 0,.slice none 0 0]∧Blk wz (w.heap.size+1) 103 [.slice (some ⟨cb,co,none⟩) N ct,ev,pv]∧wz.ownsRow (w.heap.size+1+1) 2 1 ev j2 ((endsC 0 ((ts.map CM.c).take j2)).map (Value.int .i64))∧wz.ownsRow (w.heap.size+1+1) 110 20 pv j2 (plsC ((ts.map CM.c).take j2)))
   rw [hes,hps,htt] at hREL
   replace hREL:=Lib.hid hREL
   clear hes hps htt htk hmem hcc ha HPl
   generalize (endsC 0 ((ts.map CM.c).take j)).map (Value.int .i64)=es at *
   generalize plsC ((ts.map CM.c).take j)=ps at *
   generalize tot ((ts.map CM.c).take j)=en at *
   generalize ts[j]=m at *
   obtain⟨l,hml⟩:∃ l,m.cells=l:=⟨_,rfl⟩
   have hlk:l.length=kc:=by rw [← hml,← hkc.out];rfl
   have hl0:l[0]?=some (.int .i64 m.c.len):=by rw [← hml];rfl
   rw [hml] at hcell hone
   have la:Sem.run Tryz.prog (loadCellsFrom ⟨cb,co+j * kc,none⟩ 0 kc #[]) wr=.ok l.toArray wr:=by rw [show j * kc=j * 22 by rw [← hkc.out]];exact ld_row hlk hcell
   have st:Sem.run Tryz.prog (storeCells ⟨wr.heap.size,0,none⟩ l 0) (wr.alloc (.cells #[.int .i64 0,.int .i64 0,.int .i64 0,.string ⟨#[]⟩,.int .i64 0,.int .i64 0,.int .i64 0,.int .i64 0,.bool false,.int .i64 0,.string ⟨#[]⟩,.int .i64 0,.int .i64 0,.int .i64 0,.int .i64 0,.bool false,.int .i64 0,.int .i64 0,.int .i64 0,.string ⟨#[]⟩,.int .i64 0,.slice none 0 0] 61))=.ok () (wr.alloc (.cells l.toArray 61)):=st_new wr _ _ l (by rw [hlk,← hkc.out];exact infoClip) (by rw [hlk,← hkc.out];rfl) hone
   have hbx:=Blk.new wr l 61
   have gA:=(Gr.refl wr).alloc (.cells l.toArray 61)
   have u0:=(hbx.cel.2 0 _ hl0).1
   have u1:=hbx.lt
   go_upto_region 7 with fail
   have hZ2:=hZr.gr gA
   have hX2:=hXr.gr gA
   have hg2:=hg.trans gA
   have hOe2:=own_gr gA hOe
   have hOp2:=own_gr gA hOp
   have hXs:w.heap.size+1+1≤wr.heap.size:=by have:=hXr.lt;omega
   have hWr:wr.heap.size<(wr.alloc (.cells l.toArray 61)).heap.size:=u1
   clear u0 u1 gA la st hZr hXr hg hOe hOp hcell
   generalize wr.alloc (.cells l.toArray 61)=W2 at *
   generalize wr.heap.size=X at *
   clear wr
   obtain⟨p1,c1',rfl⟩:=own_shape hOe2
   obtain⟨p2,c2',rfl⟩:=own_shape hOp2
   have gB:=(Gr.refl W2).alloc (.cells #[.int .i64 (en+m.c.len)] 2)
   have hOe3:=own_gr gB hOe2
   have hOp3:=own_gr gB hOp2
   have hX3:=hX2.gr gB
   have hZ3:=hZ2.gr gB
   have hB3:=hbx.gr gB
   have hg3:=hg2.trans gB
   have y0:=hX2.lt
   have y1:=(hX2.cel.2 1 _ rfl).1
   have y2:=(hX2.cel.2 1 _ rfl).2
   have n1:=own_not_blk hOe3 hX3 (by decide)
   have n2:=own_not_blk hOe3 hZ3 (by decide)
   have n3:=own_not_blk hOe3 hB3 (by decide)
   have n4:=own_not_own hOp3 hOe3 (by decide)
   have n5:=own_ge hOe3
   have n6:w.heap.size+1+1≤W2.heap.size:=by have:=hX2.lt;omega
   go_upto_region 8 with (at_builtin;go_loud (refine wpList_append_rd rfl (.tmp 20) (.tmp 22) 100 rfl (w.heap.size+1+1) 2 i8 (.int .i64 0) 1 8 (by as_aux_lemma=>kernel_rfl) hi8 hi80 hi81 hi82 rfl (by decide) (.slice p1 j c1') j es rfl (World.ownsRow.alloc hOe2 _) _ 1 [.int .i64 (en+m.c.len)] rfl (Rd.new W2 #[.int .i64 (en+m.c.len)] 2 1 1 1 rfl) ?_ ?_ ?_ ?_ ?_;(· intro u hu;simp at hu;subst hu;rfl);(· unfold maxLen;omega);(· omega);(· simp;omega);intro ev2 w3 hown3 hgrow3;obtain⟨p3,c3',rfl⟩:=own_shape hown3;have hX4:=hX3.grown hgrow3 n1;have y3:=hX4.lt;have y4:=(hX4.cel.2 1 _ rfl).1;have y5:=(hX4.cel.2 1 _ rfl).2))
   have gS:=grown_setCell w3 ⟨w.heap.size+1,1,none⟩ (.slice p3 (j+1) c3')
   have hX5:Blk (w3.setCell ⟨w.heap.size+1,1,none⟩ (.slice p3 (j+1) c3')) (w.heap.size+1) 103 [.slice (some ⟨cb,co,none⟩) N ct,.slice p3 (j+1) c3',.slice p2 j c2']:=hX4.set 1 (.slice p3 (j+1) c3')
   have hZ5:=(hZ3.grown hgrow3 n2).grown gS (by show some (w.heap.size+1)≠_;intro e;injection e with e;omega)
   have hXX:w.heap.size+1+1≤X:=hXs
   have hB5:=(hB3.grown hgrow3 n3).grown gS (by show some (w.heap.size+1)≠_;intro e;injection e with e;omega)
   have hOe5:=ownsRow_setCell_below hown3 (a:=⟨w.heap.size+1,1,none⟩) (by show w.heap.size+1<_;omega) (.slice p3 (j+1) c3')
   have hOp5:=ownsRow_setCell_below (World.ownsRow.kept hOp3 hgrow3 n4) (a:=⟨w.heap.size+1,1,none⟩) (by show w.heap.size+1<_;omega) (.slice p3 (j+1) c3')
   have hg5:Gr w (w3.setCell ⟨w.heap.size+1,1,none⟩ (.slice p3 (j+1) c3')):=(hg3.grown hgrow3 (fun k hk=>by have:=n5 k hk;omega)).setCell (by show w.heap.size≤w.heap.size+1;omega) _
   clear hX2 hX3 hX4 hZ2 hZ3 hbx hB3 hOe2 hOp2 hOe3 hOp3 hg2 hg3 y0 y1 y2 n1 n2 n3 n4 n5 gB hown3 hgrow3 gS
   generalize w3.setCell ⟨w.heap.size+1,1,none⟩ (.slice p3 (j+1) c3')=W5 at *
   refine wp_region_still (Keep 8 (fun x=>Blk x (w.heap.size+1) 103 [.slice (some ⟨cb,co,none⟩) N ct,.slice p3 (j+1) c3',.slice p2 j c2']∧Blk x X 61 l)) 13 rfl (by as_aux_lemma=>kernel_rfl) ?_
   show stillAny _ _ _ _ _ _ #[false,false,false,false,false,false,false,false,false,false,false,false,false] _ _
   have gD:=(Gr.refl W5).drew
   have hS:=And.intro (hX5.gr gD) (hB5.gr gD)
   have hZ6:=hZ5.gr gD
   have hOe6:=own_gr gD hOe5
   have hOp6:=own_gr gD hOp5
   have hg6:=hg5.trans gD
   clear hX5 hB5 hZ5 hOe5 hOp5 hg5 gD
   generalize W5.drew=W6 at *
   clear W5
   refine still_pure 0 (v:=.pointer (some ⟨w.heap.size+1,2,none⟩)) rfl (by as_aux_lemma=>kernel_rfl) (by as_aux_lemma=>kernel_rfl) (by as_aux_lemma=>kernel_rfl) (fun _=>hS) rfl (fun w hw=>?_) ?_
   ·(try replace hw:=hw (by decide))
    (try have hq0:=hw.1.lt)
    (try have hq1:=(hw.1.cel.2 2 _ rfl).1)
    (try have hq2:=hw.2.lt)
    (try simp at hq0 hq1 hq2)
    first | (simp [execOp,go_sem,hq0,hq1,hq2];done) | (simp [execOp,go_sem];done)
   simp only [Act.put,zG,zH,zK,zI,zS,zZ]
   refine still_pure 1 (v:=.slice p2 j c2') rfl (by as_aux_lemma=>kernel_rfl) (by as_aux_lemma=>kernel_rfl) (by as_aux_lemma=>kernel_rfl) (fun _=>hS) rfl (fun w hw=>?_) ?_
   ·(try replace hw:=hw (by decide))
    (try have hq0:=hw.1.lt)
    (try have hq1:=(hw.1.cel.2 2 _ rfl).1)
    (try have hq2:=hw.2.lt)
    (try simp at hq0 hq1 hq2)
    first | (simp [execOp,go_sem,hq0,hq1,hq2];done) | (simp [execOp,go_sem];done)
   simp only [Act.put,zG,zH,zK,zI,zS,zZ]
   refine still_pure 2 (v:=.pointer (some ⟨X,2,none⟩)) rfl (by as_aux_lemma=>kernel_rfl) (by as_aux_lemma=>kernel_rfl) (by as_aux_lemma=>kernel_rfl) (fun _=>hS) rfl (fun w hw=>?_) ?_
   ·(try replace hw:=hw (by decide))
    (try have hq0:=hw.1.lt)
    (try have hq1:=(hw.1.cel.2 2 _ rfl).1)
    (try have hq2:=hw.2.lt)
    (try simp at hq0 hq1 hq2)
    first | (simp [execOp,go_sem,hq0,hq1,hq2];done) | (simp [execOp,go_sem];done)
   simp only [Act.put,zG,zH,zK,zI,zS,zZ]
   refine still_pure 3 (v:=.agg m.c.a.cells.toArray) rfl (by as_aux_lemma=>kernel_rfl) (by as_aux_lemma=>kernel_rfl) (by as_aux_lemma=>kernel_rfl) (fun _=>hS) rfl (fun w hw=>?_) ?_
   ·have hw2:=(hw (by decide)).2
    rw [← hml] at hw2
    exact exec_ldE aS zS hk70 (.tmp 27) rfl X 2 rfl (box_src hk7.out hw2.cel).1 hw2.lt
   simp only [Act.put,zG,zH,zK,zI,zS,zZ]
   refine still_pure 5 (v:=.pointer (some ⟨X,9,none⟩)) rfl (by as_aux_lemma=>kernel_rfl) (by as_aux_lemma=>kernel_rfl) (by as_aux_lemma=>kernel_rfl) (fun _=>hS) rfl (fun w hw=>?_) ?_
   ·(try replace hw:=hw (by decide))
    (try have hq0:=hw.2.lt)
    (try simp at hq0)
    first | (simp [execOp,go_sem,hq0];done) | (simp [execOp,go_sem];done)
   simp only [Act.put,zG,zH,zK,zI,zS,zZ]
   refine still_pure 6 (v:=.agg m.c.b.cells.toArray) rfl (by as_aux_lemma=>kernel_rfl) (by as_aux_lemma=>kernel_rfl) (by as_aux_lemma=>kernel_rfl) (fun _=>hS) rfl (fun w hw=>?_) ?_
   ·have hw2:=(hw (by decide)).2
    rw [← hml] at hw2
    exact exec_ldE aS zS hk70 (.tmp 30) rfl X 9 rfl (box_src hk7.out hw2.cel).2 hw2.lt
   simp only [Act.put,zG,zH,zK,zI,zS,zZ]
   refine still_next (j:=4) (by as_aux_lemma=>kernel_rfl) (by rfl) (fun R hR=>?_)
   (try simp only [zG,zH,zK])
   go_wp2_with (go_at_call 72;(with_reducible refine ((hPj.out _).1).mono ?_);rintro e w7 ⟨rfl,hg7⟩)
   refine only_normal (hR _ _ (Keep.step (fun h=>⟨h.1.gr hg7,h.2.gr hg7⟩)) ?_)
   clear hR R
   simp only [Act.put,zI,zS,zZ]
   refine still_next (j:=7) (by as_aux_lemma=>kernel_rfl) (by rfl) (fun R hR=>?_)
   (try simp only [zG,zH,zK])
   go_wp2_with (go_at_call 72;(with_reducible refine ((hPj.out _).2).mono ?_);rintro e w8 ⟨rfl,hg8⟩)
   refine only_normal (hR _ _ (Keep.step (fun h=>⟨h.1.gr hg8,h.2.gr hg8⟩)) ?_)
   clear hR R
   simp only [Act.put,zI,zS,zZ]
   have g68:=hg7.trans hg8
   have hl20:(plcOf m.c.a ++ plcOf m.c.b).length=20:=by rw [List.length_append,plcOf_len,plcOf_len]
   have hone20:∀ v∈plcOf m.c.a ++ plcOf m.c.b,v.oneCell'=true:=fun v hv=>by
    rcases List.mem_append.1 hv with h | h
    ·exact plcC_one _ _ v h
    ·exact plcC_one _ _ v h
   have hb33:=builtPl (plcOf_len m.c.a) (plcOf_len m.c.b)
   generalize plcOf m.c.a=pa at *
   generalize plcOf m.c.b=pb at *
   refine still_pure 8 (v:=.agg (pa ++ pb).toArray) rfl (by as_aux_lemma=>kernel_rfl) (by as_aux_lemma=>kernel_rfl) (by as_aux_lemma=>kernel_rfl) (fun h=>absurd h (by decide)) rfl (fun w hw=>?_) ?_
   ·exact exec_buildE (t:=110) (parts:=#[(0,.tmp 29),(1,.tmp 32)]) rfl (Eq.trans (congrArg (Tryz.prog.built 110) (by as_aux_lemma=>kernel_rfl)) hb33) w
   simp only [Act.put,zG,zH,zK,zI,zS,zZ]
   have hS8:Blk w8 (w.heap.size+1) 103 [.slice (some ⟨cb,co,none⟩) N ct,.slice p3 (j+1) c3',.slice p2 j c2']∧Blk w8 X 61 l:=⟨hS.1.gr g68,hS.2.gr g68⟩
   have gE:=(Gr.refl w8).alloc (.cells (pa ++ pb).toArray 110)
   have hX9:=hS8.1.gr gE
   have hB9:=hS8.2.gr gE
   have hZ9:=(hZ6.gr g68).gr gE
   have hOe9:=own_gr gE (own_gr g68 hOe6)
   have hOp8:=own_gr g68 hOp6
   have hOp9:=own_gr gE hOp8
   have hg9:=(hg6.trans g68).trans gE
   have hRn:=Rd.new w8 (pa ++ pb).toArray 110 1 20 1 (by rw [List.size_toArray,hl20])
   refine still_next (j:=9) (by as_aux_lemma=>kernel_rfl) (by rfl) (fun R hR=>?_)
   (try simp only [zG,zH,zK])
   go_wp2_with (refine wpList_bs1 rfl 101 110 (.tmp 33) rfl 20 (by as_aux_lemma=>kernel_rfl) (by as_aux_lemma=>kernel_rfl) (by decide) (by decide) (pa ++ pb) hl20 rfl ?_)
   refine only_normal (hR _ _ (Keep.step (fun h=>⟨h.1.gr ((Gr.refl _).alloc _),h.2.gr ((Gr.refl _).alloc _)⟩)) ?_)
   clear hR R
   simp only [Act.put,zI,zS,zZ]
   clear hS hZ6 hOe6 hOp6 hg6 hS8 hOp8 gE
   have n1:=own_not_blk hOp9 hX9 (by decide)
   have n2:=own_not_blk hOp9 hZ9 (by decide)
   have n3:=own_not_blk hOp9 hB9 (by decide)
   have n4:=own_not_own hOe9 hOp9 (by decide)
   have n5:=own_ge hOp9
   have n6:w.heap.size+1+1≤(w8.alloc (.cells (pa ++ pb).toArray 110)).heap.size:=by have:=hX9.lt;omega
   generalize w8.alloc (.cells (pa ++ pb).toArray 110)=W9 at *
   refine still_next (j:=10) (by as_aux_lemma=>kernel_rfl) (by rfl) (fun R hR=>?_)
   (try simp only [zG,zH,zK])
   go_wp2_with (at_builtin;go_loud (refine wpList_append_rd rfl (.tmp 26) (.tmp 34) 101 rfl (w.heap.size+1+1) 110 ip (.agg (plz ++ plz).toArray) 20 176 (by as_aux_lemma=>kernel_rfl) hip hip0 hip1 hip2 rfl (by decide) (.slice p2 j c2') j ps rfl hOp9 _ 1 (pa ++ pb) rfl hRn hone20 ?_ ?_ ?_ ?_;(· unfold maxLen;omega);(· omega);(· omega);intro pv2 w10 hown10 hgrow10;obtain⟨p4,c4',rfl⟩:=own_shape hown10))
   refine only_normal (hR _ _ (Keep.step (fun h=>⟨h.1.grown hgrow10 n1,h.2.grown hgrow10 n3⟩)) ?_)
   clear hR R
   simp only [Act.put,zI,zS,zZ]
   have hX10:=hX9.grown hgrow10 n1
   have hB10:=hB9.grown hgrow10 n3
   have hZ10:=hZ9.grown hgrow10 n2
   have hOe10:=World.ownsRow.kept hOe9 hgrow10 n4
   have hg10:=hg9.grown hgrow10 (fun k hk=>by have:=n5 k hk;omega)
   clear hX9 hB9 hZ9 hOe9 hOp9 hg9 n1 n2 n3 n4 n5 n6 hgrow10 hRn
   refine still_pure 11 (v:=.pointer (some ⟨w.heap.size+1,2,none⟩)) rfl (by as_aux_lemma=>kernel_rfl) (by as_aux_lemma=>kernel_rfl) (by as_aux_lemma=>kernel_rfl) (fun _=>(And.intro hX10 hB10)) rfl (fun w hw=>?_) ?_
   ·simp [execOp,go_sem]
   simp only [Act.put,zG,zH,zK,zI,zS,zZ]
   have y0:=hX10.lt
   have y1:=(hX10.cel.2 2 _ rfl).1
   have y2:=(hX10.cel.2 2 _ rfl).2
   have gS:=grown_setCell w10 ⟨w.heap.size+1,2,none⟩ (.slice p4 (j+1) c4')
   have hX11:Blk (w10.setCell ⟨w.heap.size+1,2,none⟩ (.slice p4 (j+1) c4')) (w.heap.size+1) 103 [.slice (some ⟨cb,co,none⟩) N ct,.slice p3 (j+1) c3',.slice p4 (j+1) c4']:=hX10.set 2 (.slice p4 (j+1) c4')
   have hZ11:=hZ10.grown gS (by show some (w.heap.size+1)≠_;intro e;injection e with e;omega)
   have hOe11:=ownsRow_setCell_below hOe10 (a:=⟨w.heap.size+1,2,none⟩) (by show w.heap.size+1<_;omega) (.slice p4 (j+1) c4')
   have hOp11:=ownsRow_setCell_below hown10 (a:=⟨w.heap.size+1,2,none⟩) (by show w.heap.size+1<_;omega) (.slice p4 (j+1) c4')
   have hg11:Gr w (w10.setCell ⟨w.heap.size+1,2,none⟩ (.slice p4 (j+1) c4')):=hg10.setCell (by show w.heap.size≤w.heap.size+1;omega) _
   refine still_next (j:=12) (by as_aux_lemma=>kernel_rfl) (by rfl) (fun R hR=>?_)
   (try simp only [zG,zH,zK])
   go_wp2_with fail
   refine only_normal (hR _ _ (Keep.last (by as_aux_lemma=>kernel_rfl)) ?_)
   clear hR R
   simp only [Act.put,zI,zS,zZ]
   refine still_done (by as_aux_lemma=>kernel_rfl) ?_
   (try simp only [zG,zH,zK,zI,zS,zZ])
   have hfin:=Lib.hid (hREL.out _ _ _ hg11 hZ11 hX11 hOe11 hOp11)
   clear hX10 hB10 hZ10 hOe10 hg10 hown10 gS hX11 hZ11 hOe11 hOp11 y0 y1 y2
   go_wp2
   go_roundw
   case rel=>exact hfin.out
   case measure=>simp [RowKit.intOf];omega
  ·have q1:decide ((j:Int)<(N:Int))=false:=decide_eq_false (by omega)
   have hjN:j=N:=by omega
   subst hjN
   obtain⟨p1,c1',rfl⟩:=own_shape hOe
   obtain⟨p2,c2',rfl⟩:=own_shape hOp
   rw [List.take_of_length_le (l:=ts.map CM.c) (by rw [List.length_map];omega)] at hOe hOp
   obtain⟨L,hL⟩:∃ l,[Value.slice at_ j ct,.slice p1 j c1',.slice p2 j c2']=l:=⟨_,rfl⟩
   have hL3:L.length=3:=by rw [← hL];rfl
   have hLo:∀ v∈L,v.oneCell'=true:=by
    rw [← hL]
    intro v hv
    simp only [List.mem_cons,List.not_mem_nil,or_false] at hv
    rcases hv with rfl | rfl | rfl <;> rfl
   have hLk:L.length=k3:=by rw [hL3,hk3.out]
   have hRe:=Rd.grown (row:=some w.heap.size) (grown_setRow wr w.heap.size L.toArray) (.inr (.inl fun e=>by have:=own_ge hOe _ e;omega)) (Rd.own hOe)
   have hRp:=Rd.grown (row:=some w.heap.size) (grown_setRow wr w.heap.size L.toArray) (.inr (.inl fun e=>by have:=own_ge hOp _ e;omega)) (Rd.own hOp)
   have ge1:=own_ge hOe
   have ge2:=own_ge hOp
   rw [hL] at hXr
   have ldx:=ldB hLk hXr
   have st:=stB hZr (l:=L) (by rw [hL3];rfl) hLo
   have y0:=hXr.lt
   have y1:=hZr.lt
   have hb2:=blk_set hZr L
   have ld2:=ldB hLk hb2
   have hg2:=gr_setRow hg (g:=w.heap.size) (Nat.le_refl _) L.toArray
   replace hL:=Lib.hid hL
   replace hL3:=Lib.hid hL3
   clear hXr hZr hb2 hOe hOp HPl
   go_wp2
   simp [bodyPost,results,Tryz.results40,go_sem,aL,zL,ld2]
   exact⟨_,_,by rw [hL.out],hg2,hRe,hRp,fun k hk=>by have:=ge1 k hk;omega,fun k hk=>by have:=ge2 k hk;omega⟩
end Go.Proofs.YtnginfangeikpaaGreatDoor
