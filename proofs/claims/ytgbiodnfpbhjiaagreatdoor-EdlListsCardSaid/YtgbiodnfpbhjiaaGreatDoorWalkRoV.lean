/-
  Contract of Of of the reference where the arguments are good.
  Conditions: the track lies in memory.
-/
import Derived.Test.YtgbiodnfpbhjiaaGreatDoorReg9
import Derived.Deep.CutBlock
namespace Go.Proofs.YtgbiodnfpbhjiaaGreatDoor
open Go.RowKit Go.Lib
set_option linter.unusedSimpArgs false
set_option linter.unusedVariables false
theorem blkS_one:∀ v∈blkS.cells,v.oneCell'=true:=by
 intro v hm
 unfold Sr.cells at hm
 simp only [List.mem_cons,List.not_mem_nil,or_false] at hm
 rcases hm with rfl | rfl | rfl | rfl | rfl | rfl | rfl <;> rfl
theorem ofL_gap {c:Cl} {l:List Cl} {acc:List Ev} {n:Int} {bf:Sr} (h:c.kind=0):ofL (c :: l) acc n bf=ofL l acc (n+c.len) blkS:=by
 cases l with
 | nil=>simp [ofL,h]
 | cons d l=>rw [ofL,if_pos h]
theorem ofL_none {c:Cl} {l:List Cl} {acc:List Ev} {n:Int} {bf:Sr} (h:c.kind≠0) (he:evO c bf n=none):ofL (c :: l) acc n bf=none:=by
 cases l with
 | nil=>simp [ofL,h,he]
 | cons d l=>rw [ofL,if_neg h,he]
theorem ofL_one {c:Cl} {l:List Cl} {acc:List Ev} {n:Int} {bf:Sr} {e:Ev} (h:c.kind≠0) (he:evO c bf n=some e) (hl:∀ d r,l=d :: r→lookB e c d=false):ofL (c :: l) acc n bf=ofL l (e :: acc) (n+c.len) (plS e.reel e.o):=by
 cases l with
 | nil=>simp [ofL,h,he]
 | cons d l=>
  rw [ofL,if_neg h,he]
  simp only
  rw [hl d l rfl]
  rfl
theorem ofL_two {c d:Cl} {l:List Cl} {acc:List Ev} {n:Int} {bf:Sr} {e:Ev} (h:c.kind≠0) (he:evO c bf n=some e) (hd:lookB e c d=true):ofL (c :: d :: l) acc n bf=ofL l (extE e d.len :: acc) (n+c.len+d.len) (plS e.reel (extE e d.len).o):=by
 rw [ofL,if_neg h,he]
 simp only
 rw [hd]
 rfl
theorem OgI.far {w Wn:World} {LB BF g:Nat} {title:ByteArray} {base:Int} {drop:Bool} {bf:Sr} {lv:Value} {acc:List Ev} {wr wx:World} (h:OgI w Wn LB BF title base drop bf lv acc wr) (h1:w.heap.size<LB) (h2:LB<Wn.heap.size) (h3:Wn.heap.size≤BF) (hX:BF<g) (hr:∀ x,lv.ownBlock=some x→x<g) (hg:wr.grownBy wx (some g)):OgI w Wn LB BF title base drop bf lv acc wx:=
 ⟨h.kp.grown hg (by omega),h.gr.grown hg (fun k hk=>by injection hk with hk;omega),h.res.grown hg (fun e=>by injection e;omega),h.lb.grown hg (fun e=>by injection e;omega),h.bfb.grown hg (fun e=>by injection e;omega),World.ownsRow.kept h.row hg (.inr (fun e=>by have:=hr _ e;omega))⟩
theorem OgI.farc {w Wn:World} {LB BF:Nat} {title:ByteArray} {base:Int} {drop:Bool} {bf:Sr} {lv:Value} {acc:List Ev} {wr:World} (h:OgI w Wn LB BF title base drop bf lv acc wr) (h1:w.heap.size<LB) (h2:LB<Wn.heap.size) (h3:Wn.heap.size≤BF) {p:Addr} (hX:BF<p.block) (hr:∀ x,lv.ownBlock=some x→x<p.block) (v:Value):OgI w Wn LB BF title base drop bf lv acc (wr.setCell p v):=
 h.far h1 h2 h3 hX hr (grown_setCell wr p v)
theorem OgI.farr {w Wn:World} {LB BF g:Nat} {title:ByteArray} {base:Int} {drop:Bool} {bf:Sr} {lv:Value} {acc:List Ev} {wr:World} (h:OgI w Wn LB BF title base drop bf lv acc wr) (h1:w.heap.size<LB) (h2:LB<Wn.heap.size) (h3:Wn.heap.size≤BF) (hX:BF<g) (hr:∀ x,lv.ownBlock=some x→x<g) (l:Array Value):OgI w Wn LB BF title base drop bf lv acc (wr.setRow g l):=
 h.far h1 h2 h3 hX hr (grown_setRow wr g l)
theorem ev_rd {w:World} {EB:Nat} {kd p fr n tt:Int} (h:∃ r i o,Blk w EB 30 [.int .i64 kd,.int .i64 p,.int .i64 fr,r,i,o,.int .i64 n,.int .i64 tt]):EB<w.heap.size∧w.cell? ⟨EB,7,none⟩=some (.int .i64 tt)∧w.cell? ⟨EB,6,none⟩=some (.int .i64 n):=by
 obtain⟨r,i,o,h⟩:=h
 exact⟨h.lt,(h.cel.2 7 _ rfl).1,(h.cel.2 6 _ rfl).1⟩
theorem ev_st3 {w:World} {EB:Nat} {kd p fr n tt:Int} (h:∃ r i o,Blk w EB 30 [.int .i64 kd,.int .i64 p,.int .i64 fr,r,i,o,.int .i64 n,.int .i64 tt]) (v:Value):∃ r i o,Blk (w.setCell ⟨EB,3,none⟩ v) EB 30 [.int .i64 kd,.int .i64 p,.int .i64 fr,r,i,o,.int .i64 n,.int .i64 tt]:=by
 obtain⟨r,i,o,h⟩:=h
 exact⟨v,i,o,h.set 3 v⟩
theorem ev_st4 {w:World} {EB:Nat} {kd p fr n tt:Int} (h:∃ r i o,Blk w EB 30 [.int .i64 kd,.int .i64 p,.int .i64 fr,r,i,o,.int .i64 n,.int .i64 tt]) (v:Value):∃ r i o,Blk (w.setCell ⟨EB,4,none⟩ v) EB 30 [.int .i64 kd,.int .i64 p,.int .i64 fr,r,i,o,.int .i64 n,.int .i64 tt]:=by
 obtain⟨r,i,o,h⟩:=h
 exact⟨r,v,o,h.set 4 v⟩
theorem ev_st5 {w:World} {EB:Nat} {kd p fr n tt:Int} (h:∃ r i o,Blk w EB 30 [.int .i64 kd,.int .i64 p,.int .i64 fr,r,i,o,.int .i64 n,.int .i64 tt]) (v:Value):∃ r i o,Blk (w.setCell ⟨EB,5,none⟩ v) EB 30 [.int .i64 kd,.int .i64 p,.int .i64 fr,r,i,o,.int .i64 n,.int .i64 tt]:=by
 obtain⟨r,i,o,h⟩:=h
 exact⟨r,i,v,h.set 5 v⟩
theorem mvOk_valid {s:Sr} {n:Int} (h:vSr (mvS s n)):mvOk s n=true:=by
 unfold mvOk
 rcases h with h | h
 ·rw [h];exact Bool.or_eq_true_iff.2 (.inr (by decide))
 ·rw [(wiB_iff (vB_parts h.a)).2 (by have:=h.a2;omega),Bool.or_true]
structure C_rof_yes (M:Prop) where
 LB:Prop
 LC:Prop
 LD2:Prop
 LE2:Prop
 LF2:Prop
 LD3:Prop
 LE3:Prop
 LF3:Prop
 LG:Prop
 LP:Prop
 LA:Prop
 h:LB→LC→LD2→LE2→LF2→LD3→LE3→LF3→LG→LP→LA→M
set_option maxRecDepth 100000 in
set_option maxHeartbeats 8000000 in
noncomputable def rof_yesDef:C_rof_yes ((∀ (k:Nat) (hk22:22=k) (k7:Nat) (hk7:7=k7) (cs:List CM) (v:Value) (title:ByteArray) (base:Int) (drop:Bool) (w:World) (h:TrR w v cs) (hok:∀ c∈cs,ClOk c.c) (ht:title.size≤140737488355328)
  (ho:C19.okB base drop=true) (hvt:vtB (cs.map CM.c)=true) (hvl:vLine title=true) (hvc:∀ c∈nmC (cs.map CM.c),VC c) (htt:tot (nmC (cs.map CM.c))≤2147483647) (hln:(nmC (cs.map CM.c)).length≤64),Calls Tryz.prog 21 #[v,.string title,.int .i64 base,.bool drop] w fun e w'=>∃ (l:El) (lv:Value) (E:Int),e=.returned (.tuple #[l.val lv,.int .i64 E])∧Gr w w'∧ElR w' lv l∧(∀ a n c,lv=.slice a n c→n≤c) ∧
   ((E=0∧∃ acc,ofR (nmC (cs.map CM.c)) [] 0=some acc∧l=⟨title,base,drop,acc.reverse⟩∧vEl l=true)∨(E=3∧l=⟨⟨#[]⟩,0,false,[]⟩∧∀ acc,ofR (nmC (cs.map CM.c)) [] 0=some acc→vEl ⟨title,base,drop,acc.reverse⟩=false)))):=by
 apply C_rof_yes.mk
 case h=>
  intro qLeafB qLeafC qLeafD2 qLeafE2 qLeafF2 qLeafD3 qLeafE3 qLeafF3 qLeafG qLeafP qLeafA
  intro k hk22 k7 hk7 cs v title base drop w h hok ht ho hvt hvl hvc htt hln
  replace hk22:=Lib.hid hk22
  replace hk7:=Lib.hid hk7
  have HV:Hid (∀ w',Gr w w'→Calls Tryz.prog 53 #[v] w' fun e w''=>e=.returned (.bool true)∧Gr w' w''):=Lib.hid fun w' hg=>by rw [← hvt];exact rvtrack_any cs v w' (h.gr hg) hok
  have HT:Hid (∀ w',Calls Tryz.prog 39 #[.string title] w' fun e w''=>e=.returned (.bool true)∧Gr w' w''):=Lib.hid fun w'=>by rw [← hvl];exact rvalidLine_any title w' ht
  have HD:Hid (∀ w',Calls Tryz.prog 38 #[.int .i64 base,.bool drop] w' fun e w''=>e=.returned (.tuple #[.int .i64 (C19.dayN base drop),.int .i64 0])∧w'=w''):=Lib.hid fun w'=>C19.rday_yes base drop w' ho
  have HN:Hid (∀ w',Gr w w'→Calls Tryz.prog 54 #[v] w' fun e w''=>∃ (ts:List CM) (a:Option Addr) (cap:Nat),e=.returned (.slice a ts.length cap)∧Gr w' w''∧TrR w'' (.slice a ts.length cap) ts∧ts.map CM.c=nmC (cs.map CM.c)):=Lib.hid fun w' hg=>(rnormal_any cs v w' (h.gr hg) hok).mono fun e w'' ⟨v',ts,q1,q2,q3,q4⟩=>by
   obtain⟨a,cap,rfl,_⟩:=q3.shape
   exact⟨ts,a,cap,q1,q2,q3,q4⟩
  have hst:Hid (ofR (nmC (cs.map CM.c)) [] 0=ofL (nmC (cs.map CM.c)) [] 0 blkS):=Lib.hid (ofL_start hvc).symm
  generalize C19.dayN base drop=day at *
  generalize nmC (cs.map CM.c)=N at *
  clear h hok hvt hvl ho
  rw [hst.out]
  have hb0:=Blk.new w [.string ⟨#[]⟩,.int .i64 0,.bool false,.slice none 0 0] 24
  have hgA:Gr w (w.alloc (.cells #[.string ⟨#[]⟩,.int .i64 0,.bool false,.slice none 0 0] 24)):=(Gr.refl w).alloc _
  simp only [List.toArray] at hb0
  go_enter Tryz.func21,Tryz.ntmps21
  go_upto_region 4 with (first
   | (go_at_call 38;(with_reducible refine (HD.out _).mono ?_);rintro e w0 ⟨rfl,rfl⟩)
   | (go_at_call 53;(with_reducible refine (HV.out _ hgA).mono ?_);rintro e w1 ⟨rfl,hg1⟩)
   | (go_at_call 39;(with_reducible refine (HT.out _).mono ?_);rintro e w2 ⟨rfl,hg2⟩))
  have hb2:=(hb0.gr hg1).gr hg2
  have hg02:=(hgA.trans hg1).trans hg2
  clear hb0 hgA hg1 hg2
  go_upto_region 5 with fail
  have hgL:Gr w2 (w2.alloc (.cells #[.string title,.int .i64 base,.bool drop,.slice none 0 0] 24)):=(Gr.refl w2).alloc _
  have hbL:=Blk.new w2 [.string title,.int .i64 base,.bool drop,.slice none 0 0] 24
  simp only [List.toArray] at hbL
  have hb3:=hb2.gr hgL
  have hg3:=hg02.trans hgL
  have hLB:w.heap.size<w2.heap.size:=hb2.lt
  obtain⟨LB,hLBe⟩:∃ LB,w2.heap.size=LB:=⟨_,rfl⟩
  obtain⟨W,hWe⟩:∃ W,w2.alloc (.cells #[.string title,.int .i64 base,.bool drop,.slice none 0 0] 24)=W:=⟨_,rfl⟩
  rw [hWe] at hbL hb3 hg3 ⊢
  rw [hLBe] at hbL hLB ⊢
  clear hb2 hg02 hgL hWe hLBe
  go_upto_region 7 with (go_at_call 54;(with_reducible refine (HN.out _ hg3).mono ?_);rintro e w3 ⟨ts,a,cap,rfl,hg4,htr,htc⟩)
  have hbL4:=hbL.gr hg4
  have hb4:=hb3.gr hg4
  have hgw4:=hg3.trans hg4
  clear hbL hb3 hg3 hg4
  have hgB:Gr w3 (w3.alloc (.cells #[.int .i64 0,.string ⟨#[]⟩,.int .i64 0,.int .i64 0,.int .i64 0,.int .i64 0,.bool false] 79)):=(Gr.refl w3).alloc _
  have hbB:=Blk.new w3 blkS.cells 79
  go_upto_region 8 with fail
  obtain⟨W4,hW4⟩:∃ W4,w3.alloc (.cells #[.int .i64 0,.string ⟨#[]⟩,.int .i64 0,.int .i64 0,.int .i64 0,.int .i64 0,.bool false] 79)=W4:=⟨_,rfl⟩
  have hbB':Blk W4 w3.heap.size 79 blkS.cells:=by rw [← hW4];exact hbB
  rw [hW4] at hgB ⊢
  have hLBw:LB<w3.heap.size:=hbL4.lt
  have hTK:Hid (∀ wr,Kp w3 LB wr→TrR wr (.slice a ts.length cap) ts):=Lib.hid fun wr hkp=>hkp.trk htr hbL4 (fun y e=>by cases e)
  have hBFw:w3.heap.size<W4.heap.size:=hbB'.lt
  obtain⟨BF,hBF⟩:∃ BF,w3.heap.size=BF:=⟨_,rfl⟩
  have hBF3:w3.heap.size≤BF:=by omega
  rw [hBF] at hbB' hBFw ⊢
  have hI0:OgI w w3 LB BF title base drop blkS (.slice none 0 0) [] W4:=⟨(Kp.refl _ _).gr hgB,hgw4.trans hgB,hb4.gr hgB,hbL4.gr hgB,hbB',rfl,.inl ⟨rfl,rfl⟩⟩
  clear hbL4 hb4 hgw4 hgB hbB hbB' hW4 hBF
  have aE:∀ w,(isAgg 81).run Tryz.prog w=.ok true w:=Tryz.isAgg81
  have zE:∀ w,(Go.sizeOf 81).run Tryz.prog w=.ok k w:=fun w=>by rw [← hk22.out];exact Tryz.sizeOf81 w
  have hN:Hid (∀ c∈ts,VC c.c):=Lib.hid fun c hc=>hvc _ (by rw [← htc];exact List.mem_map.2 ⟨c,hc,rfl⟩)
  have hlt:ts.length≤64:=by rw [← htc,List.length_map] at hln;exact hln
  rw [← htc] at htt
  replace htt:=Lib.hid htt
  replace htc:=Lib.hid htc
  clear hvc hln hst HV HT HD HN
  go_wp2
  go_loopw [14,16] (fun at_ i wr=>∃ (j:Nat) (acc:List Ev) (n:Int) (bf:Sr) (lv:Value),j≤ts.length∧i=.int .i64 j∧at_=.int .i64 n∧OgI w w3 LB BF title base drop bf lv acc wr∧Hid (Ab acc n∧acc.length≤j∧n=tot ((ts.take j).map CM.c)∧ofL N [] 0 blkS=ofL ((ts.drop j).map CM.c) acc n bf)) (fun _ i _=>ts.length - (RowKit.intOf i).toNat)
  case atStart=>exact⟨0,[],0,blkS,.slice none 0 0,by omega,rfl,rfl,hI0,Lib.hid ⟨fun x hx=>(by cases hx),by simp,by simp [tot],by rw [← htc.out];rfl⟩⟩
  case round=>
   obtain⟨j,acc,n,bf,lv,hj,rfl,rfl,hI,hM⟩:=hrel
   clear hI0
   by_cases c1:j<ts.length
   ·have g1:decide ((j:Int)<ts.length)=true:=decide_eq_true (by omega)
    have i1:(0:Int)≤(j:Int)∧(j:Int)<(ts.length:Int):=by omega
    have hTR:=hTK.out _ hI.kp
    obtain⟨a',cap',hsl,hsh⟩:=hTR.shape
    injection hsl with e1 _ e3
    subst e1
    clear e3
    rcases hsh with hsh | ⟨b,o,rfl,hbl,hc⟩
    ·omega
    have hcell:∀ (x:Nat) (u:Value),ts[j].cells[x]?=some u→wr.cell? ⟨b,o+j * 22+x,none⟩=some u:=fun x u hu=>hc j c1 x u hu
    have hchm:=hTR.ch _ (List.getElem_mem c1)
    have hvcm:=hN.out _ (List.getElem_mem c1)
    have hmt:tot ((ts.take (j+1)).map CM.c)=tot ((ts.take j).map CM.c)+ts[j].c.len:=by
     rw [← List.take_append_getElem c1,List.map_append,tot_append]
     simp [tot]
    have hmd:(ts.drop j).map CM.c=ts[j].c :: (ts.drop (j+1)).map CM.c:=by rw [List.drop_eq_getElem_cons c1];rfl
    have hnt:tot ((ts.take (j+1)).map CM.c)≤2147483647:=by
     have:=htt.out
     rw [← List.take_append_drop (j+1) ts,List.map_append,tot_append] at this
     have h0:0≤tot ((ts.drop (j+1)).map CM.c):=tot_nonneg fun c hc=>by
      obtain⟨m,hm,rfl⟩:=List.mem_map.1 hc
      exact (hN.out m (List.mem_of_mem_drop hm)).vl
     omega
    have hn0:0≤tot ((ts.take j).map CM.c):=tot_nonneg fun c hc=>by
     obtain⟨m,hm,rfl⟩:=List.mem_map.1 hc
     exact (hN.out m (List.mem_of_mem_take hm)).vl
    obtain⟨hAb,hal,hnn,hof⟩:=hM.out
    rw [← hnn] at hmt hn0
    rw [hmt] at hnt
    rw [hmd] at hof
    generalize ts[j]=m at hcell hchm hvcm hmt hnt hof
    clear hc hTR hmd hM hnn
    have hone:=hchm.one
    obtain⟨ln,hln⟩:∃ ln,m.c.len=ln:=⟨_,rfl⟩
    have hl1:=hvcm.len
    rw [hln] at hmt hnt hl1
    replace hAb:=Lib.hid hAb
    replace hof:=Lib.hid hof
    replace hmt:=Lib.hid hmt
    obtain⟨l,hml⟩:∃ l,m.cells=l:=⟨_,rfl⟩
    have hlk:l.length=k:=by rw [← hml,← hk22.out];rfl
    have hl0:l[0]?=some (.int .i64 ln):=by rw [← hml,← hln];rfl
    have hlk1:l[1]?=some (.int .i64 m.c.kind):=by rw [← hml];rfl
    rw [hml] at hcell hone
    have la:Sem.run Tryz.prog (loadCellsFrom ⟨b,o+j * k,none⟩ 0 k #[]) wr=.ok l.toArray wr:=by rw [show j * k=j * 22 by rw [← hk22.out]];exact ld_row hlk hcell
    have st:Sem.run Tryz.prog (storeCells ⟨wr.heap.size,0,none⟩ l 0) (wr.alloc (.cells #[.int .i64 0,.int .i64 0,.int .i64 0,.string ⟨#[]⟩,.int .i64 0,.int .i64 0,.int .i64 0,.int .i64 0,.bool false,.int .i64 0,.string ⟨#[]⟩,.int .i64 0,.int .i64 0,.int .i64 0,.int .i64 0,.bool false,.int .i64 0,.int .i64 0,.int .i64 0,.string ⟨#[]⟩,.int .i64 0,.slice none 0 0] 81))=.ok () (wr.alloc (.cells l.toArray 81)):=st_new wr _ _ l (by rw [hlk,← hk22.out];exact infoClip) (by rw [hlk,← hk22.out];rfl) hone
    have hbx:Blk (wr.alloc (.cells l.toArray 81)) wr.heap.size 81 l:=Blk.new wr l 81
    have hI1:=hI.by ((Gr.refl wr).alloc (.cells l.toArray 81))
    have hch1:=hchm.gr ((Gr.refl wr).alloc (.cells l.toArray 81))
    have hXr:∀ g,lv.ownBlock=some g→g<wr.heap.size:=fun g hg=>(hI.row.lt g hg).2
    have hBX:BF<wr.heap.size:=hI.bfb.lt
    replace hml:=Lib.hid hml
    replace hln:=Lib.hid hln
    have hkl:Hid (l.length=k):=Lib.hid hlk
    clear hcell hchm hI
    go_upto_region 12 with fail
    obtain⟨X,hX⟩:∃ X,wr.heap.size=X:=⟨_,rfl⟩
    obtain⟨W5,hW5⟩:∃ W5,wr.alloc (.cells l.toArray 81)=W5:=⟨_,rfl⟩
    rw [hW5] at hbx hI1 hch1 ⊢
    rw [hX] at hbx hXr hBX ⊢
    clear la st hX hW5 hlk
    have y:=hbx.lt
    have y0:=(hbx.cel.2 0 _ hl0).1
    have y1:=(hbx.cel.2 1 _ hlk1).1
    by_cases ck:m.c.kind=0
    ·
     clear qLeafC qLeafD2 qLeafE2 qLeafF2 qLeafD3 qLeafE3 qLeafF3 qLeafG qLeafP qLeafA
     repeat (rename _=>hZz;revert hZz)
     intro hZz
     exact hZz
    ·have q1:(m.c.kind == 0)=false:=by simp [ck]
     replace ck:=Lib.hid ck
     go_upto_region 15 with fail
     have hgE:Gr W5 (W5.alloc (.cells #[.int .i64 0,.int .i64 0,.int .i64 0,.string ⟨#[]⟩,.int .i64 0,.int .i64 0,.int .i64 n,.int .i64 (n+ln)] 30)):=(Gr.refl W5).alloc _
     obtain⟨W6,hW6⟩:∃ W6,W5.alloc (.cells #[.int .i64 0,.int .i64 0,.int .i64 0,.string ⟨#[]⟩,.int .i64 0,.int .i64 0,.int .i64 n,.int .i64 (n+ln)] 30)=W6:=⟨_,rfl⟩
     have hbE:Blk W6 W5.heap.size 30 (evZo 0 0 0 n (n+ln)):=by rw [← hW6];exact Blk.new W5 (evZo 0 0 0 n (n+ln)) 30
     rw [hW6] at hgE ⊢
     have hI2:=hI1.by hgE
     have hb2:=hbx.gr hgE
     have hch2:=hch1.gr hgE
     have hXE:X<W5.heap.size:=y
     obtain⟨EB,hEB⟩:∃ EB,W5.heap.size=EB:=⟨_,rfl⟩
     rw [hEB] at hbE hXE ⊢
     clear hW6 hEB hI1 hbx hch1 hgE y y0 y1
     have hk70:¬ k7=0:=by have:=hk7.out;omega
     have aE7:∀ w,(isAgg 79).run Tryz.prog w=.ok true w:=Tryz.isAgg79
     have zE7:∀ w,(Go.sizeOf 79).run Tryz.prog w=.ok k7 w:=fun w=>by rw [← hk7.out];exact Tryz.sizeOf79 w
     have hcm:Cel W6 X m.cells:=by rw [hml.out];exact hb2.cel
     have la2:=(box_src (P:=Tryz.prog) hk7.out hcm).1
     have hlak:m.c.a.cells.length=k7:=hk7.out
     have stS:Sem.run Tryz.prog (storeCells ⟨W6.heap.size,0,none⟩ m.c.a.cells 0) (W6.alloc (.cells #[.int .i64 0,.string ⟨#[]⟩,.int .i64 0,.int .i64 0,.int .i64 0,.int .i64 0,.bool false] 79))=.ok () (W6.alloc (.cells m.c.a.cells.toArray 79)):=st_new W6 _ _ m.c.a.cells infoSrc7 rfl (Sr.one m.c.a)
     have hbS:=Blk.new W6 m.c.a.cells 79
     have hgS:Gr W6 (W6.alloc (.cells m.c.a.cells.toArray 79)):=(Gr.refl W6).alloc _
     have y:=hb2.lt
     go_upto_region 16 with fail
     have hES:EB<W6.heap.size:=hbE.lt
     replace hI2:=hI2.by hgS
     replace hb2:=hb2.gr hgS
     replace hch2:=hch2.gr hgS
     replace hbE:=hbE.gr hgS
     obtain⟨W7,hW7⟩:∃ W7,W6.alloc (.cells m.c.a.cells.toArray 79)=W7:=⟨_,rfl⟩
     rw [hW7] at hI2 hb2 hch2 hbE hbS ⊢
     obtain⟨SB,hSB⟩:∃ SB,W6.heap.size=SB:=⟨_,rfl⟩
     rw [hSB] at hbS hES ⊢
     clear hW7 hSB hgS la2 stS hcm y hlak
     have y:=hb2.lt
     have y1:=(hb2.cel.2 1 _ hlk1).1
     go_upto_block 2 with fail
     go_cut [19] (fun vs wx=>∃ (kd p fr:Int) (s:Sr),vs=.pointer (some ⟨SB,0,none⟩)∧Blk wx EB 30 (evZo kd p fr n (n+ln))∧Blk wx SB 79 s.cells∧Blk wx X 81 l∧OgI w w3 LB BF title base drop bf lv acc wx∧Hid (evO m.c bf n=if relB s && okC m.c then some (mkE kd p fr s n ln) else none)∧Hid (vSr s∧((fr=0∧kd=0)∨(fr=ln∧s=m.c.b))))
     case first=>
      have x0:=(hb2.cel.2 0 _ hl0).1
      by_cases c1:m.c.kind=1
      ·
       clear qLeafB qLeafD2 qLeafE2 qLeafF2 qLeafD3 qLeafE3 qLeafF3 qLeafG qLeafP qLeafA
       repeat (rename _=>hZz;revert hZz)
       intro hZz
       exact hZz
      have q4:(m.c.kind == 1)=false:=by simp [c1]
      by_cases c2:m.c.kind=2
      ·have q2:(m.c.kind == 2)=true:=by simp [c2]
       have q3:(m.c.kind == 3)=false:=by simp [c2]
       have hev0:evO m.c bf n=if m.c.off=0∧m.c.tot=ln∧m.c.a=bf then (if relB m.c.b && okC m.c then some (mkE 1 m.c.par ln m.c.b n ln) else none) else none:=by
        unfold evO
        rw [if_neg c1,if_pos (by omega),show m.c.kind - 1=1 by omega,hln.out]
       replace hev0:=Lib.hid hev0
       replace c2:=Lib.hid c2
       have hq:∀ w,(binOp .neq 79 (.agg m.c.a.cells.toArray) (.agg bf.cells.toArray)).run Tryz.prog w=.ok (.bool (!decide (m.c.a=bf))) w:=fun w=>neq_src m.c.a bf w
       have hl16:l[16]?=some (.int .i64 m.c.off):=by rw [← hml.out];rfl
       have hl17:l[17]?=some (.int .i64 m.c.tot):=by rw [← hml.out];rfl
       have hl18:l[18]?=some (.int .i64 m.c.par):=by rw [← hml.out];rfl
       have x16:=(hb2.cel.2 16 _ hl16).1
       have x17:=(hb2.cel.2 17 _ hl17).1
       have hcm:Cel W7 X m.cells:=by rw [hml.out];exact hb2.cel
       have la2:=(box_src (P:=Tryz.prog) hk7.out hcm).1
       have lbf:=ld_cel (P:=Tryz.prog) (show bf.cells.length=k7 from hk7.out) hI2.bfb.cel
       go_upto_region 21 with fail
       go_cut [97] (fun vb wx=>∃ B:Bool,vb=.bool B∧wx=W7∧((B=true∧¬ (m.c.off=0∧m.c.tot=ln∧m.c.a=bf))∨(B=false∧(m.c.off=0∧m.c.tot=ln∧m.c.a=bf))))
       case first=>
        clear qLeafB qLeafC qLeafE2 qLeafF2 qLeafD3 qLeafE3 qLeafF3 qLeafG qLeafP qLeafA
        repeat (rename _=>hZz;revert hZz)
        intro hZz
        exact hZz
       case rest=>
        obtain⟨B,rfl,rfl,hB⟩:=hcut
        clear la2 lbf hcm x0 x16 x17 hq
        cases B with
        | true=>
         clear qLeafB qLeafC qLeafD2 qLeafF2 qLeafD3 qLeafE3 qLeafF3 qLeafG qLeafP qLeafA
         repeat (rename _=>hZz;revert hZz)
         intro hZz
         exact hZz
        | false=>
         clear qLeafB qLeafC qLeafD2 qLeafE2 qLeafD3 qLeafE3 qLeafF3 qLeafG qLeafP qLeafA
         repeat (rename _=>hZz;revert hZz)
         intro hZz
         exact hZz
      by_cases c3:m.c.kind=3
      ·have q2:(m.c.kind == 2)=false:=by simp [c3]
       have q3:(m.c.kind == 3)=true:=by simp [c3]
       have hev0:evO m.c bf n=if m.c.off=0∧m.c.tot=ln∧m.c.a=bf then (if relB m.c.b && okC m.c then some (mkE 2 m.c.par ln m.c.b n ln) else none) else none:=by
        unfold evO
        rw [if_neg c1,if_pos (by omega),show m.c.kind - 1=2 by omega,hln.out]
       replace hev0:=Lib.hid hev0
       replace c3:=Lib.hid c3
       have hq:∀ w,(binOp .neq 79 (.agg m.c.a.cells.toArray) (.agg bf.cells.toArray)).run Tryz.prog w=.ok (.bool (!decide (m.c.a=bf))) w:=fun w=>neq_src m.c.a bf w
       have hl16:l[16]?=some (.int .i64 m.c.off):=by rw [← hml.out];rfl
       have hl17:l[17]?=some (.int .i64 m.c.tot):=by rw [← hml.out];rfl
       have hl18:l[18]?=some (.int .i64 m.c.par):=by rw [← hml.out];rfl
       have x16:=(hb2.cel.2 16 _ hl16).1
       have x17:=(hb2.cel.2 17 _ hl17).1
       have hcm:Cel W7 X m.cells:=by rw [hml.out];exact hb2.cel
       have la2:=(box_src (P:=Tryz.prog) hk7.out hcm).1
       have lbf:=ld_cel (P:=Tryz.prog) (show bf.cells.length=k7 from hk7.out) hI2.bfb.cel
       go_upto_region 21 with fail
       go_cut [97] (fun vb wx=>∃ B:Bool,vb=.bool B∧wx=W7∧((B=true∧¬ (m.c.off=0∧m.c.tot=ln∧m.c.a=bf))∨(B=false∧(m.c.off=0∧m.c.tot=ln∧m.c.a=bf))))
       case first=>
        clear qLeafB qLeafC qLeafD2 qLeafE2 qLeafF2 qLeafE3 qLeafF3 qLeafG qLeafP qLeafA
        repeat (rename _=>hZz;revert hZz)
        intro hZz
        exact hZz
       case rest=>
        obtain⟨B,rfl,rfl,hB⟩:=hcut
        clear la2 lbf hcm x0 x16 x17 hq
        cases B with
        | true=>
         clear qLeafB qLeafC qLeafD2 qLeafE2 qLeafF2 qLeafD3 qLeafF3 qLeafG qLeafP qLeafA
         repeat (rename _=>hZz;revert hZz)
         intro hZz
         exact hZz
        | false=>
         clear qLeafB qLeafC qLeafD2 qLeafE2 qLeafF2 qLeafD3 qLeafE3 qLeafG qLeafP qLeafA
         repeat (rename _=>hZz;revert hZz)
         intro hZz
         exact hZz
      clear qLeafB qLeafC qLeafD2 qLeafE2 qLeafF2 qLeafD3 qLeafE3 qLeafF3 qLeafP qLeafA
      repeat (rename _=>hZz;revert hZz)
      intro hZz
      exact hZz
     case rest=>
      clear qLeafB qLeafC qLeafD2 qLeafE2 qLeafF2 qLeafD3 qLeafE3 qLeafF3 qLeafG qLeafA
      repeat (rename _=>hZz;revert hZz)
      intro hZz
      exact hZz
   ·
    clear qLeafB qLeafC qLeafD2 qLeafE2 qLeafF2 qLeafD3 qLeafE3 qLeafF3 qLeafG qLeafP
    repeat (rename _=>hZz;revert hZz)
    intro hZz
    exact hZz
structure C_rof_yesP (M:Prop) where
 LH:Prop
 LI:Prop
 LQ:Prop
 h:LH→LI→LQ→M
set_option maxRecDepth 100000 in
set_option maxHeartbeats 8000000 in
noncomputable def rof_yesPDef:C_rof_yesP (rof_yesDef.LP):=by
     apply C_rof_yesP.mk
     case h=>
      intro qLeafH qLeafI qLeafQ
      intro _ k7
      iterate 8 intro _
      intro hk7
      iterate 230 intro _
      intro m
      iterate 7 intro _
      intro l _ _ _ hml
      iterate 20 intro _
      intro hbE hch2 hb2 hI2 _ _ hbS y y1 wc
      iterate 182 intro _
      intro hcut
      obtain⟨kd,p,fr,s,rfl,hE7,hS7,hX7,hI7,hev,hs7⟩:=hcut
      clear hbE hbS hb2 hI2 y1 y
      have hvs:=hs7.out.1
      have HP:Hid (∀ w',Calls Tryz.prog 55 #[.agg s.cells.toArray] w' fun e w''=>e=.returned (.bool (relB s))∧Gr w' w''):=Lib.hid fun w'=>rplain_any s w' hvs
      have hl20:l[20]?=some (.int .i64 m.c.gain):=by rw [← hml.out];rfl
      obtain⟨ac,cpc,hcv⟩:=hch2.slice
      have hl21:l[21]?=some (.slice ac m.c.ch.length cpc):=by rw [← hml.out,← hcv];rfl
      have ls:=ld_cel (P:=Tryz.prog) (show s.cells.length=k7 from hk7.out) hS7.cel
      have sl:=hS7.lt
      obtain⟨rb,hrb⟩:∃ rb,relB s=rb:=⟨_,rfl⟩
      rw [hrb] at HP hev
      replace hrb:=Lib.hid hrb
      replace hcv:=Lib.hid hcv
      clear hch2
      go_upto_region 26 with fail
      go_cut [125] (fun vb wx=>∃ B:Bool,vb=.bool B∧Gr wc wx∧((B=true∧(rb && okC m.c)=false)∨(B=false∧(rb && okC m.c)=true)))
      case first=>
       clear qLeafI qLeafQ
       repeat (rename _=>hZz;revert hZz)
       intro hZz
       exact hZz
      case rest=>
       obtain⟨B,rfl,hg8,hB⟩:=hcut
       have hE8:=hE7.gr hg8
       have hS8:=hS7.gr hg8
       have hX8:=hX7.gr hg8
       have hI8:=hI7.by hg8
       clear ls sl hE7 hS7 hX7 hI7 HP hg8
       cases B with
       | true=>
        clear qLeafH qLeafQ
        repeat (rename _=>hZz;revert hZz)
        intro hZz
        exact hZz
       | false=>
        clear qLeafH qLeafI
        repeat (rename _=>hZz;revert hZz)
        intro hZz
        exact hZz
structure C_rof_yesQ (M:Prop) where
 LJ:Prop
 LS:Prop
 h:LJ→LS→M
set_option maxRecDepth 100000 in
set_option maxHeartbeats 8000000 in
noncomputable def rof_yesQDef:C_rof_yesQ (rof_yesPDef.LQ):=by
       apply C_rof_yesQ.mk
       case h=>
        intro qLeafJ qLeafS
        intro _ k7
        iterate 4 intro _
        intro drop _ _ _ hk7
        iterate 9 intro _
        intro ts
        iterate 202 intro _
        intro j _ n bf
        iterate 10 intro _
        intro hTK _ _ _ m _ ln
        iterate 7 intro _
        intro hl0 _ _ hln
        iterate 17 intro _
        intro SB
        iterate 183 intro _
        intro kd p fr s hs7 hvs
        iterate 4 intro _
        intro rb hev
        iterate 6 intro _
        intro wc
        iterate 177 intro _
        intro hE8 hS8 hX8 hI8 hB
        replace hev:Hid (evO m.c bf n=some (mkE kd p fr s n ln)):=Lib.hid (by
         rw [hev.out,if_pos]
         rcases hB with ⟨h,_⟩ | ⟨_,h⟩
         ·cases h
         ·exact h)
        have hrt1:Hid (rb=true):=Lib.hid (by
         rcases hB with ⟨h,_⟩ | ⟨_,h⟩
         ·cases h
         ·rw [Bool.and_eq_true] at h;exact h.1)
        clear hB
        have ls:=ld_cel (P:=Tryz.prog) (show s.cells.length=k7 from hk7.out) hS8.cel
        have sl:=hS8.lt
        have xl:=hX8.lt
        have x0:=(hX8.cel.2 0 _ hl0).1
        obtain⟨mvl,hmv⟩:∃ mvl,(mvS s ln).cells=mvl:=⟨_,rfl⟩
        obtain⟨mo,hmo⟩:∃ mo,mvOk s ln=mo:=⟨_,rfl⟩
        have HM:Hid (∀ w',Calls Tryz.prog 56 #[.agg s.cells.toArray,.int .i64 ln] w' fun e w''=>e=.returned (.tuple #[.agg mvl.toArray,.bool mo])∧Gr w' w''):=Lib.hid fun w'=>by
         rw [← hmv,← hmo]
         exact rmoved_any s ln w' hvs (by omega) (by omega)
        have hmv7:mvl.length=k7:=by rw [← hmv];exact hk7.out
        have hstM:Hid (∀ w':World,Sem.run Tryz.prog (storeCells ⟨w'.heap.size,0,none⟩ mvl 0) (w'.alloc (.cells #[.int .i64 0,.string ⟨#[]⟩,.int .i64 0,.int .i64 0,.int .i64 0,.int .i64 0,.bool false] 79))=.ok () (w'.alloc (.cells mvl.toArray 79))):=Lib.hid fun w'=>by
         rw [← hmv]
         exact st_new w' _ _ (mvS s ln).cells infoSrc7 rfl (Sr.one _)
        replace hmv:=Lib.hid hmv
        replace hmo:=Lib.hid hmo
        go_upto_region 29 with (go_at_call 56;(with_reducible refine (HM.out _).mono ?_);rintro e w9 ⟨rfl,hg9⟩;have stM:=hstM.out w9)
        have hbM:=Blk.new w9 mvl 79
        have hgM:Gr wc (w9.alloc (.cells mvl.toArray 79)):=hg9.alloc _
        have hE9:=hE8.gr hgM
        have hS9:=hS8.gr hgM
        have hX9:=hX8.gr hgM
        have hI9:=hI8.by hgM
        have hSM:SB<w9.heap.size:=(hS8.gr hg9).lt
        obtain⟨W9,hW9⟩:∃ W9,w9.alloc (.cells mvl.toArray 79)=W9:=⟨_,rfl⟩
        rw [hW9] at hbM hE9 hS9 hX9 hI9 ⊢
        obtain⟨MB,hMB⟩:∃ MB,w9.heap.size=MB:=⟨_,rfl⟩
        rw [hMB] at hbM hSM ⊢
        clear hgM hW9 hMB stM hg9 hstM HM ls sl xl x0 hE8 hS8 hX8 hI8
        obtain⟨e,he⟩:∃ e,mkE kd p fr s n ln=e:=⟨_,rfl⟩
        rw [he] at hev
        have hef:e.fr=fr:=by rw [← he];rfl
        obtain⟨a2,cap2,hsl,hsh⟩:=(hTK.out _ hI9.kp).shape
        injection hsl with q6 _ q7
        subst q6
        rcases hsh with hsh | ⟨b2,o2,q8,hbl2,hc2⟩
        ·omega
        injection q8 with q8
        injection q8 with q8 q9
        subst q8 q9
        clear q7
        replace hs7:=hs7.out
        replace he:=Lib.hid he
        have e2:=(hE9.cel.2 2 _ rfl).1
        have el:=hE9.lt
        have hlk:Hid (0<fr→∀ d:Cl,lookB e m.c d=decide (d.kind=1∧d.a=mvS s ln∧d.gain=0∧d.ch=[])):=Lib.hid (by
         intro h0 d
         rcases hs7.2 with ⟨h,_⟩ | ⟨_,h⟩
         ·omega
         ·unfold lookB
          rw [hef,h,hln.out]
          exact decide_eq_decide.2 ⟨fun h=>h.2,fun h=>⟨h0,h⟩⟩)
        have hl0':Hid (¬ 0<fr→∀ d:Cl,lookB e m.c d=false):=Lib.hid (by
         intro h0 d
         unfold lookB
         rw [hef]
         exact decide_eq_false (fun h=>h0 h.1))
        go_cut [184] (fun vb wx=>∃ B:Bool,vb=.bool B∧Gr W9 wx∧((B=true∧∃ h:j+1<ts.length,lookB e m.c ts[j+1].c=true)∨(B=false∧∀ d r,(ts.drop (j+1)).map CM.c=d :: r→lookB e m.c d=false)))
        case first=>
         clear qLeafS
         repeat (rename _=>hZz;revert hZz)
         intro hZz
         exact hZz
        case rest=>
         clear qLeafJ
         repeat (rename _=>hZz;revert hZz)
         intro hZz
         exact hZz
structure C_rof_yesS (M:Prop) where
 LK:Prop
 LV:Prop
 h:LK→LV→M
set_option maxRecDepth 100000 in
set_option maxHeartbeats 8000000 in
noncomputable def rof_yesSDef:C_rof_yesS (rof_yesQDef.LS):=by
        apply C_rof_yesS.mk
        case h=>
         intro qLeafK qLeafV
         iterate 4 intro _
         intro title base drop w
         iterate 8 intro _
         intro LB _ _ w3 ts
         iterate 5 intro _
         intro BF
         iterate 196 intro _
         intro j acc n bf lv
         iterate 12 intro _
         intro m _ ln
         iterate 22 intro _
         intro EB
         iterate 5 intro _
         intro SB
         iterate 183 intro _
         intro kd p fr s
         iterate 199 intro _
         intro hI9 hX9 hS9 hE9 _ _ hbM e
         iterate 5 intro _
         intro hbl2 hc2 _ _ e2 el hlk hl0' wc
         iterate 178 intro _
         intro hcut
         obtain⟨B,rfl,hg10,hB⟩:=hcut
         have hE10:=hE9.gr hg10
         have hS10:=hS9.gr hg10
         have hI10:=hI9.by hg10
         clear hE9 hS9 hX9 hI9 hbM hg10 hlk hl0' e2 el hc2 hbl2
         obtain⟨U,hU⟩:∃ U,wc=U:=⟨_,rfl⟩
         rw [hU] at hE10 hS10 hI10 ⊢
         clear hU
         go_upto_if 184 with fail
         go_cut [16] (fun vi wx=>∃ (j2:Nat) (tt:Int),vi=.int .i64 j2∧Blk wx EB 30 (evZo kd p fr n tt)∧Blk wx SB 79 s.cells∧OgI w w3 LB BF title base drop bf lv acc wx∧Hid ((j2=j∧tt=n+ln∧∀ d r,(ts.drop (j+1)).map CM.c=d :: r→lookB e m.c d=false)∨(j2=j+1∧∃ h:j+1<ts.length,lookB e m.c ts[j+1].c=true∧tt=n+ln+ts[j+1].c.len)))
         case first=>
          clear qLeafV
          repeat (rename _=>hZz;revert hZz)
          intro hZz
          exact hZz
         case rest=>
          clear qLeafK
          repeat (rename _=>hZz;revert hZz)
          intro hZz
          exact hZz
structure C_rof_yesV (M:Prop) where
 LL:Prop
 LY:Prop
 h:LL→LY→M
set_option maxRecDepth 100000 in
set_option maxHeartbeats 8000000 in
noncomputable def rof_yesVDef:C_rof_yesV (rof_yesSDef.LV):=by
         apply C_rof_yesV.mk
         case h=>
          intro qLeafL qLeafY
          intro _ k7 _ _ title base drop w _ _ hk7 _ N _ _ _ LB _ _ w3 ts
          iterate 5 intro _
          intro BF
          iterate 4 intro _
          intro hN
          iterate 191 intro _
          intro j acc n bf lv
          iterate 10 intro _
          intro hn0 _ _ hvcm ln _ _ hAb hof hmt l
          iterate 4 intro _
          intro hln
          iterate 9 intro _
          intro ck _ EB
          iterate 189 intro _
          intro kd p fr s hvs
          iterate 5 intro _
          intro hrb
          iterate 179 intro _
          intro hrt1
          iterate 12 intro _
          intro e hev
          iterate 5 intro _
          intro he
          iterate 179 intro _
          intro hB _ hI10 hS10 hE10 wc
          iterate 179 intro _
          intro hcut
          obtain⟨j2,tt,rfl,hE12,hS12,hI12,hjj⟩:=hcut
          obtain⟨U2,hU2⟩:∃ U2,wc=U2:=⟨_,rfl⟩
          rw [hU2] at hE12 hS12 hI12 ⊢
          clear hU2 hB hE10 hS10 hI10
          have hrt:relB s=true:=by rw [hrb.out];exact hrt1.out
          have hrs:=rel_small hvs hrt
          replace hrt:=Lib.hid hrt
          have hps:=Lib.hid (relB_pl hvs hrt.out)
          have hj2:j2+1≤ts.length:=by
           rcases hjj.out with ⟨rfl,_⟩ | ⟨rfl,h,_⟩ <;> omega
          have hjl:j≤j2:=by
           rcases hjj.out with ⟨rfl,_⟩ | ⟨rfl,h,_⟩ <;> omega
          have hF:Hid (∀ O,O=(if (relN s).size=0 then 0 else relI s+(tt - n))→Ab (⟨kd,p,fr,relN s,relI s,O,n,tt⟩ :: acc) tt∧tt=tot ((ts.take (j2+1)).map CM.c)∧ofL N [] 0 blkS=ofL ((ts.drop (j2+1)).map CM.c) (⟨kd,p,fr,relN s,relI s,O,n,tt⟩ :: acc) tt (plS (relN s) O)):=Lib.hid (by
           rintro O rfl
           have hA1:=hAb.out.push hvcm hln.out hev.out hn0
           have heE:e=⟨kd,p,fr,relN s,relI s,if (relN s).size=0 then 0 else relI s+ln,n,n+ln⟩:=by rw [← he.out];rfl
           rcases hjj.out with ⟨rfl,rfl,hno⟩ | ⟨rfl,c9,hlt9,rfl⟩
           ·have hof3:=ofL_one (bf:=bf) (acc:=acc) (n:=n) ck.out hev.out hno
            rw [hln.out] at hof3
            rw [show n+ln - n=ln by omega,← heE,hof.out,hof3]
            refine⟨hA1,hmt.out.symm,?_⟩
            rw [heE]
           ·have hdv:=(hN.out _ (List.getElem_mem c9)).len
            have hd1:(ts.drop (j+1)).map CM.c=ts[j+1].c :: (ts.drop (j+1+1)).map CM.c:=by rw [List.drop_eq_getElem_cons c9];rfl
            have hd2:tot ((ts.take (j+1+1)).map CM.c)=tot ((ts.take (j+1)).map CM.c)+ts[j+1].c.len:=by
             rw [← List.take_append_getElem c9,List.map_append,tot_append]
             simp [tot]
            have hof3:=ofL_two (bf:=bf) (acc:=acc) (n:=n) (l:=(ts.drop (j+1+1)).map CM.c) ck.out hev.out hlt9
            rw [hln.out] at hof3
            have hA2:=hA1.ext (ln:=ts[j+1].c.len) (by omega) (by rw [heE])
            have hx:extE e ts[j+1].c.len=⟨kd,p,fr,relN s,relI s,if (relN s).size=0 then 0 else relI s+(n+ln+ts[j+1].c.len - n),n,n+ln+ts[j+1].c.len⟩:=by
             rw [heE]
             unfold extE
             simp only
             by_cases hz:(relN s).size=0
             ·rw [if_pos hz,if_pos hz,if_pos hz]
             ·rw [if_neg hz,if_neg hz,if_neg hz,show relI s+ln+ts[j+1].c.len=relI s+(n+ln+ts[j+1].c.len - n) by omega]
            rw [← hx,hof.out,hd1,hof3]
            refine⟨hA2,by rw [hd2,hmt.out],?_⟩
            rw [hx,show e.reel=relN s by rw [heE]])
          have htt2:n+ln≤tt∧tt≤4294967296:=by
           rcases hjj.out with ⟨rfl,rfl,_⟩ | ⟨rfl,c9,_,rfl⟩
           ·omega
           ·have:=(hN.out _ (List.getElem_mem c9)).len;omega
          have hal2:acc.length+1≤j2+1:=by omega
          obtain⟨zn,hzn⟩:∃ zn,relN s=zn:=⟨_,rfl⟩
          obtain⟨zi,hzi⟩:∃ zi,relI s=zi:=⟨_,rfl⟩
          rw [hzn,hzi] at hF
          rw [hzi] at hrs
          replace hzn:=Lib.hid hzn
          replace hzi:=Lib.hid hzi
          obtain⟨bk,hbk⟩:∃ bk,decide (s=blkS)=bk:=⟨_,rfl⟩
          have HB:Hid (∀ w',Calls Tryz.prog 57 #[.agg s.cells.toArray] w' fun e w''=>e=.returned (.bool bk)∧Gr w' w''):=Lib.hid fun w'=>by rw [← hbk];exact rblack_any s w'
          replace hbk:=Lib.hid hbk
          have ls:=ld_cel (P:=Tryz.prog) (show s.cells.length=k7 from hk7.out) hS12.cel
          have sl:=hS12.lt
          clear hjj hof hAb hmt
          go_upto_if 198 with (go_at_call 57;(with_reducible refine (HB.out _).mono ?_);rintro e w13 ⟨rfl,hg13⟩)
          have hE13:=hE12.gr hg13
          have hS13:=hS12.gr hg13
          have hI13:=hI12.by hg13
          clear hE12 hS12 hI12 ls sl HB hg13
          go_cut [198] (fun _ wx=>∃ O:Int,Blk wx EB 30 [.int .i64 kd,.int .i64 p,.int .i64 fr,.string zn,.int .i64 zi,.int .i64 O,.int .i64 n,.int .i64 tt]∧OgI w w3 LB BF title base drop bf lv acc wx∧Hid (O=(if zn.size=0 then 0 else zi+(tt - n))))
          case first=>
           clear qLeafY
           repeat (rename _=>hZz;revert hZz)
           intro hZz
           exact hZz
          case rest=>
           clear qLeafL
           repeat (rename _=>hZz;revert hZz)
           intro hZz
           exact hZz
set_option maxRecDepth 100000 in
set_option maxHeartbeats 8000000 in
theorem rof_yesB:rof_yesDef.LB:=by
    intro _ _ _ v _ _ drop
    iterate 5 intro _
    intro N
    iterate 4 intro _
    intro hLB _ _ ts
    iterate 4 intro _
    intro hLBw _ _ hBF3
    iterate 194 intro _
    intro j acc n bf lv
    iterate 13 intro _
    intro m _ ln _ _ hAb hof hmt
    iterate 5 intro _
    intro hln
    iterate 13 intro _
    intro hI1
    iterate 4 intro _
    intro ck
    have q1:(m.c.kind == 0)=true:=by simp [ck]
    have hof2:ofL N [] 0 blkS=ofL ((ts.drop (j+1)).map CM.c) acc (n+ln) blkS:=by
     rw [hof.out,ofL_gap ck,hln.out]
    replace hof2:=Lib.hid hof2
    replace ck:=Lib.hid ck
    obtain⟨zl,hzl⟩:∃ zl,blkS.cells=zl:=⟨_,rfl⟩
    have hz7:Hid (zl.length=7):=Lib.hid (by rw [← hzl];rfl)
    have hzo:∀ v∈zl,v.oneCell'=true:=by rw [← hzl];exact blkS_one
    have st:=st_blk (P:=Tryz.prog) hI1.bfb (show zl.length=bf.cells.length by rw [hz7.out];rfl) hzo
    have hI2:=hI1.setbf hLB hLBw hBF3 blkS
    rw [hzl] at hI2
    replace hzl:=Lib.hid hzl
    replace hI2:=Lib.hid hI2
    go_wp2_with (refine wpList_buildTo rfl 79 #[] rfl (some 65) rfl zl.toArray (by rw [← hzl.out];kernel_rfl) ?_)
    go_roundw
    case rel=>exact⟨j+1,acc,n+ln,blkS,lv,by omega,by go_num,rfl,hI2.out,Lib.hid ⟨fun x hx=>by have:=hAb.out x hx;omega,by omega,hmt.out.symm,hof2.out⟩⟩
    case measure=>simp [RowKit.intOf];omega
set_option maxRecDepth 100000 in
set_option maxHeartbeats 8000000 in
theorem rof_yesC:rof_yesDef.LC:=by
      iterate 225 intro _
      intro n bf
      iterate 14 intro _
      intro m hvcm ln
      iterate 10 intro _
      intro hln
      iterate 19 intro _
      intro hbE _ hb2 hI2 _ _ hbS
      iterate 7 intro _
      intro c1
      have q4:(m.c.kind == 1)=true:=by simp [c1]
      have hev:Hid (evO m.c bf n=if relB m.c.a && okC m.c then some (mkE 0 0 0 m.c.a n ln) else none):=Lib.hid (by unfold evO;rw [if_pos c1,hln.out])
      replace c1:=Lib.hid c1
      go_wp2
      go_meet
      exact⟨0,0,0,m.c.a,rfl,hbE,hbS,hb2,hI2,hev,Lib.hid ⟨hvcm.a,.inl ⟨rfl,rfl⟩⟩⟩
set_option maxRecDepth 100000 in
set_option maxHeartbeats 8000000 in
theorem rof_yesD2:rof_yesDef.LD2:=by
       iterate 226 intro _
       intro bf
       iterate 14 intro _
       intro m _ ln
       iterate 50 intro _
       intro hq
       iterate 16 intro _
       by_cases d1:m.c.off=0
       ·have p1:(m.c.off != 0)=false:=by simp [d1]
        by_cases d2:m.c.tot=ln
        ·have p2:(m.c.tot != ln)=false:=by simp [d2]
         obtain⟨K,hK⟩:∃ K,decide (m.c.a=bf)=K:=⟨_,rfl⟩
         rw [hK] at hq
         replace d1:=Lib.hid d1
         replace d2:=Lib.hid d2
         replace hK:=Lib.hid hK
         go_wp2
         go_meet
         refine⟨!K,rfl,rfl,?_⟩
         cases K
         ·exact .inl ⟨rfl,fun e=>by have:=of_decide_eq_false hK.out;exact this e.2.2⟩
         ·exact .inr ⟨rfl,d1.out,d2.out,of_decide_eq_true hK.out⟩
        ·have p2:(m.c.tot != ln)=true:=by simp [d2]
         replace d1:=Lib.hid d1
         replace d2:=Lib.hid d2
         go_wp2
         go_meet
         exact⟨true,rfl,rfl,.inl ⟨rfl,fun e=>d2.out e.2.1⟩⟩
       ·have p1:(m.c.off != 0)=true:=by simp [d1]
        replace d1:=Lib.hid d1
        go_wp2
        go_meet
        exact⟨true,rfl,rfl,.inl ⟨rfl,fun e=>d1.out e.1⟩⟩
set_option maxRecDepth 100000 in
set_option maxHeartbeats 8000000 in
theorem rof_yesE2:rof_yesDef.LE2:=by
        iterate 12 intro _
        intro N
        iterate 212 intro _
        intro n bf
        iterate 14 intro _
        intro m
        iterate 5 intro _
        intro hof
        iterate 16 intro _
        intro ck
        iterate 18 intro _
        intro hev0
        iterate 189 intro _
        intro hI2 _ _ y1 hB
        have hev:Hid (evO m.c bf n=none):=Lib.hid (by
         rw [hev0.out,if_neg]
         rcases hB with ⟨_,h⟩ | ⟨h,_⟩
         ·exact h
         ·cases h)
        have hres:=hI2.res
        have hgr:=hI2.gr
        have hofN:Hid (ofL N [] 0 blkS=none):=Lib.hid (by rw [hof.out,ofL_none ck.out hev.out])
        have y0:=hres.lt
        obtain⟨y1,u1⟩:=hres.cel.2 0 _ rfl
        obtain⟨y2,u2⟩:=hres.cel.2 1 _ rfl
        obtain⟨y3,u3⟩:=hres.cel.2 2 _ rfl
        obtain⟨y4,u4⟩:=hres.cel.2 3 _ rfl
        go_wp2
        simp [bodyPost,results,Tryz.results21,go_sem,y1,y2,y3,y4]
        refine⟨⟨⟨#[]⟩,0,false,[]⟩,.slice none 0 0,3,⟨rfl,rfl⟩,?_,⟨EvsR.nil _,by decide,fun e he=>(by cases he),by decide⟩,fun a n c e=>(by injection e;omega),.inr ⟨rfl,rfl,fun acc' hacc=>?_⟩⟩
        ·repeat (first | (with_reducible exact hgr) | (with_reducible refine Gr.setCell ?_ (by simp) _))
        ·rw [hofN.out] at hacc
         cases hacc
set_option maxRecDepth 100000 in
set_option maxHeartbeats 8000000 in
theorem rof_yesF2:rof_yesDef.LF2:=by
        intro _ k7 _ v _ _ _ w _ _ hk7
        iterate 6 intro _
        intro hLB
        iterate 7 intro _
        intro hLBw _ _ hBF3
        iterate 194 intro _
        intro j _ n bf
        iterate 7 intro _
        intro b
        iterate 6 intro _
        intro m hvcm ln
        iterate 5 intro _
        intro l _ hl0 hlk1 hml
        iterate 5 intro _
        intro X _ hXr
        iterate 4 intro _
        intro EB _ hk70 aE7 zE7 _ _ SB
        iterate 9 intro _
        intro hev0 _ _ _ hl18
        iterate 4 intro _
        intro wc
        iterate 177 intro _
        intro hbE hch2 hb2 hI2 hbS y _ hB
        have hev:Hid (evO m.c bf n=if relB m.c.b && okC m.c then some (mkE 1 m.c.par ln m.c.b n ln) else none):=Lib.hid (by
         rw [hev0.out,if_pos]
         rcases hB with ⟨h,_⟩ | ⟨_,h⟩
         ·cases h
         ·exact h)
        have hgu:Gr wc wc.drew:=(Gr.refl wc).drew
        have hb4:=hb2.gr hgu
        have hE4:=hbE.gr hgu
        have hS4:=hbS.gr hgu
        have hI4:=hI2.by hgu
        clear hgu hB hb2 hbE hbS hI2 hch2
        go_upto_region 23 with fail
        refine wp_region_still (Keep 6 (fun y=>Blk y X 81 l)) 13 rfl (by as_aux_lemma=>kernel_rfl) ?_
        show stillAny _ _ _ _ _ _ #[false,false,false,false,false,false,false,false,false,false,false,false,false] _ _
        generalize wc.drew=U at *
        refine still_pure 0 (v:=.pointer (some ⟨X,0,none⟩)) rfl (by as_aux_lemma=>kernel_rfl) (by as_aux_lemma=>kernel_rfl) (by as_aux_lemma=>kernel_rfl) (fun _=>hb4) rfl (fun w hw=>?_) ?_
        ·simp [execOp,go_sem] <;> (intros;omega)
        simp only [Act.put,zI,zS,zZ]
        refine still_pure 1 (v:=.int .i64 ln) rfl (by as_aux_lemma=>kernel_rfl) (by as_aux_lemma=>kernel_rfl) (by as_aux_lemma=>kernel_rfl) (fun _=>hb4) rfl (fun w hw=>?_) ?_
        ·replace hw:=hw (by decide)
         have hq0:=hw.lt
         have hq1:=(hw.cel.2 0 _ hl0).1
         (try simp at hq0 hq1)
         simp [execOp,go_sem,hq0,hq1]
        simp only [Act.put,zI,zS,zZ]
        refine still_pure 2 (v:=.pointer (some ⟨X,18,none⟩)) rfl (by as_aux_lemma=>kernel_rfl) (by as_aux_lemma=>kernel_rfl) (by as_aux_lemma=>kernel_rfl) (fun _=>hb4) rfl (fun w hw=>?_) ?_
        ·simp [execOp,go_sem] <;> (intros;omega)
        simp only [Act.put,zI,zS,zZ]
        refine still_pure 3 (v:=.int .i64 m.c.par) rfl (by as_aux_lemma=>kernel_rfl) (by as_aux_lemma=>kernel_rfl) (by as_aux_lemma=>kernel_rfl) (fun _=>hb4) rfl (fun w hw=>?_) ?_
        ·replace hw:=hw (by decide)
         have hq0:=hw.lt
         have hq1:=(hw.cel.2 18 _ hl18).1
         (try simp at hq0 hq1)
         simp [execOp,go_sem,hq0,hq1]
        simp only [Act.put,zI,zS,zZ]
        refine still_pure 4 (v:=.pointer (some ⟨X,9,none⟩)) rfl (by as_aux_lemma=>kernel_rfl) (by as_aux_lemma=>kernel_rfl) (by as_aux_lemma=>kernel_rfl) (fun _=>hb4) rfl (fun w hw=>?_) ?_
        ·simp [execOp,go_sem] <;> (intros;omega)
        simp only [Act.put,zI,zS,zZ]
        refine still_pure 5 (v:=.agg m.c.b.cells.toArray) rfl (by as_aux_lemma=>kernel_rfl) (by as_aux_lemma=>kernel_rfl) (by as_aux_lemma=>kernel_rfl) (fun _=>hb4) rfl (fun w hw=>?_) ?_
        ·replace hw:=hw (by decide)
         have hcm:Cel w X m.cells:=by rw [hml.out];exact hw.cel
         exact exec_load_agg aE7 zE7 hk70 (.tmp 103) rfl X 9 rfl (box_src (P:=Tryz.prog) hk7.out hcm).2 hw.lt
        simp only [Act.put,zI,zS,zZ]
        obtain⟨z0,f0⟩:=hE4.cel.2 0 _ rfl
        obtain⟨z1,f1⟩:=hE4.cel.2 1 _ rfl
        obtain⟨z2,f2⟩:=hE4.cel.2 2 _ rfl
        have zl:=hE4.lt
        have hSn:=((hS4.other (p:=⟨EB,0,none⟩) (by simp;omega) (.int .i64 1)).other (p:=⟨EB,2,none⟩) (by simp;omega) (.int .i64 ln)).other (p:=⟨EB,1,none⟩) (by simp;omega) (.int .i64 m.c.par)
        have stB:=st_blk (P:=Tryz.prog) hSn (show m.c.b.cells.length=m.c.a.cells.length from rfl) (Sr.one m.c.b)
        have hlb7:m.c.b.cells.length=k7:=hk7.out
        refine still_next (j:=6) (by as_aux_lemma=>kernel_rfl) (by rfl) (fun R hR=>?_)
        (try simp only [zG,zH,zK])
        go_wp2_with fail
        refine only_normal (hR _ _ (Keep.step (fun h=>h)) ?_)
        clear hR R
        simp only [Act.put,zI,zS,zZ]
        refine still_next (j:=7) (by as_aux_lemma=>kernel_rfl) (by rfl) (fun R hR=>?_)
        (try simp only [zG,zH,zK])
        go_wp2_with fail
        refine only_normal (hR _ _ (Keep.step (fun h=>h.other (by simp;omega) _)) ?_)
        clear hR R
        simp only [Act.put,zI,zS,zZ]
        refine still_next (j:=8) (by as_aux_lemma=>kernel_rfl) (by rfl) (fun R hR=>?_)
        (try simp only [zG,zH,zK])
        go_wp2_with fail
        refine only_normal (hR _ _ (Keep.step (fun h=>h)) ?_)
        clear hR R
        simp only [Act.put,zI,zS,zZ]
        refine still_next (j:=9) (by as_aux_lemma=>kernel_rfl) (by rfl) (fun R hR=>?_)
        (try simp only [zG,zH,zK])
        go_wp2_with fail
        refine only_normal (hR _ _ (Keep.step (fun h=>h.other (by simp;omega) _)) ?_)
        clear hR R
        simp only [Act.put,zI,zS,zZ]
        refine still_next (j:=10) (by as_aux_lemma=>kernel_rfl) (by rfl) (fun R hR=>?_)
        (try simp only [zG,zH,zK])
        go_wp2_with fail
        refine only_normal (hR _ _ (Keep.step (fun h=>h)) ?_)
        clear hR R
        simp only [Act.put,zI,zS,zZ]
        refine still_next (j:=11) (by as_aux_lemma=>kernel_rfl) (by rfl) (fun R hR=>?_)
        (try simp only [zG,zH,zK])
        go_wp2_with fail
        refine only_normal (hR _ _ (Keep.step (fun h=>h.other (by simp;omega) _)) ?_)
        clear hR R
        simp only [Act.put,zI,zS,zZ]
        refine still_next (j:=12) (by as_aux_lemma=>kernel_rfl) (by rfl) (fun R hR=>?_)
        (try simp only [zG,zH,zK])
        go_wp2_with fail
        refine only_normal (hR _ _ (Keep.step (fun h=>h.setRow_other (by omega) _)) ?_)
        clear hR R
        simp only [Act.put,zI,zS,zZ]
        refine still_done (by as_aux_lemma=>kernel_rfl) ?_
        (try simp only [zG,zH,zK,zI,zS,zZ])
        have hbn:=(((hb4.other (p:=⟨EB,0,none⟩) (by simp;omega) (.int .i64 1)).other (p:=⟨EB,2,none⟩) (by simp;omega) (.int .i64 ln)).other (p:=⟨EB,1,none⟩) (by simp;omega) (.int .i64 m.c.par)).setRow_other (show X≠SB by omega) m.c.b.cells.toArray
        have hEn:=(((hE4.set 0 (.int .i64 1)).set 2 (.int .i64 ln)).set 1 (.int .i64 m.c.par)).setRow_other (show EB≠SB by omega) m.c.b.cells.toArray
        have hSr:=hSn.setRow m.c.b.cells
        have hIn:=(((hI4.farc hLB hLBw hBF3 (p:=⟨EB,0,none⟩) (by simp;omega) (fun x hx=>by have:=hXr x hx;simp;omega) (.int .i64 1)).farc hLB hLBw hBF3 (p:=⟨EB,2,none⟩) (by simp;omega) (fun x hx=>by have:=hXr x hx;simp;omega) (.int .i64 ln)).farc hLB hLBw hBF3 (p:=⟨EB,1,none⟩) (by simp;omega) (fun x hx=>by have:=hXr x hx;simp;omega) (.int .i64 m.c.par)).farr hLB hLBw hBF3 (g:=SB) (by omega) (fun x hx=>by have:=hXr x hx;omega) m.c.b.cells.toArray
        clear hb4 hE4 hS4 hI4 hSn stB z0 z1 z2 f0 f1 f2 zl
        generalize (((U.setCell ⟨EB,0,none⟩ (.int .i64 1)).setCell ⟨EB,2,none⟩ (.int .i64 ln)).setCell ⟨EB,1,none⟩ (.int .i64 m.c.par)).setRow SB m.c.b.cells.toArray=V at *
        replace hEn:Blk V EB 30 (evZo 1 m.c.par ln n (n+ln)):=hEn
        have v1:=(hbn.cel.2 1 _ hlk1).1
        have vl:=hbn.lt
        have el:=hEn.lt
        obtain⟨y0,g0⟩:=hEn.cel.2 0 _ rfl
        clear hlb7
        go_wp2
        go_meet
        first
        | exact⟨1,m.c.par,ln,m.c.b,rfl,hEn,hSr,hbn,hIn,hev,Lib.hid ⟨hvcm.b,.inr ⟨rfl,rfl⟩⟩⟩
        | exact⟨1,m.c.par,ln,m.c.b,rfl,hEn.set 0 (.int .i64 1),hSr.other (by simp;omega) _,hbn.other (by simp;omega) _,hIn.farc hLB hLBw hBF3 (by simp;omega) (fun x hx=>by have:=hXr x hx;simp;omega) _,hev,Lib.hid ⟨hvcm.b,.inr ⟨rfl,rfl⟩⟩⟩
set_option maxRecDepth 100000 in
set_option maxHeartbeats 8000000 in
theorem rof_yesD3:rof_yesDef.LD3:=by
       iterate 226 intro _
       intro bf
       iterate 14 intro _
       intro m _ ln
       iterate 51 intro _
       intro hq
       iterate 16 intro _
       by_cases d1:m.c.off=0
       ·have p1:(m.c.off != 0)=false:=by simp [d1]
        by_cases d2:m.c.tot=ln
        ·have p2:(m.c.tot != ln)=false:=by simp [d2]
         obtain⟨K,hK⟩:∃ K,decide (m.c.a=bf)=K:=⟨_,rfl⟩
         rw [hK] at hq
         replace d1:=Lib.hid d1
         replace d2:=Lib.hid d2
         replace hK:=Lib.hid hK
         go_wp2
         go_meet
         refine⟨!K,rfl,rfl,?_⟩
         cases K
         ·exact .inl ⟨rfl,fun e=>by have:=of_decide_eq_false hK.out;exact this e.2.2⟩
         ·exact .inr ⟨rfl,d1.out,d2.out,of_decide_eq_true hK.out⟩
        ·have p2:(m.c.tot != ln)=true:=by simp [d2]
         replace d1:=Lib.hid d1
         replace d2:=Lib.hid d2
         go_wp2
         go_meet
         exact⟨true,rfl,rfl,.inl ⟨rfl,fun e=>d2.out e.2.1⟩⟩
       ·have p1:(m.c.off != 0)=true:=by simp [d1]
        replace d1:=Lib.hid d1
        go_wp2
        go_meet
        exact⟨true,rfl,rfl,.inl ⟨rfl,fun e=>d1.out e.1⟩⟩
set_option maxRecDepth 100000 in
set_option maxHeartbeats 8000000 in
theorem rof_yesE3:rof_yesDef.LE3:=by
        iterate 12 intro _
        intro N
        iterate 212 intro _
        intro n bf
        iterate 14 intro _
        intro m
        iterate 5 intro _
        intro hof
        iterate 16 intro _
        intro ck
        iterate 19 intro _
        intro hev0
        iterate 189 intro _
        intro hI2 _ _ y1 hB
        have hev:Hid (evO m.c bf n=none):=Lib.hid (by
         rw [hev0.out,if_neg]
         rcases hB with ⟨_,h⟩ | ⟨h,_⟩
         ·exact h
         ·cases h)
        have hres:=hI2.res
        have hgr:=hI2.gr
        have hofN:Hid (ofL N [] 0 blkS=none):=Lib.hid (by rw [hof.out,ofL_none ck.out hev.out])
        have y0:=hres.lt
        obtain⟨y1,u1⟩:=hres.cel.2 0 _ rfl
        obtain⟨y2,u2⟩:=hres.cel.2 1 _ rfl
        obtain⟨y3,u3⟩:=hres.cel.2 2 _ rfl
        obtain⟨y4,u4⟩:=hres.cel.2 3 _ rfl
        go_wp2
        simp [bodyPost,results,Tryz.results21,go_sem,y1,y2,y3,y4]
        refine⟨⟨⟨#[]⟩,0,false,[]⟩,.slice none 0 0,3,⟨rfl,rfl⟩,?_,⟨EvsR.nil _,by decide,fun e he=>(by cases he),by decide⟩,fun a n c e=>(by injection e;omega),.inr ⟨rfl,rfl,fun acc' hacc=>?_⟩⟩
        ·repeat (first | (with_reducible exact hgr) | (with_reducible refine Gr.setCell ?_ (by simp) _))
        ·rw [hofN.out] at hacc
         cases hacc
set_option maxRecDepth 100000 in
set_option maxHeartbeats 8000000 in
theorem rof_yesF3:rof_yesDef.LF3:=by
        intro _ k7 _ v _ _ _ w _ _ hk7
        iterate 6 intro _
        intro hLB
        iterate 7 intro _
        intro hLBw _ _ hBF3
        iterate 194 intro _
        intro j _ n bf
        iterate 7 intro _
        intro b
        iterate 6 intro _
        intro m hvcm ln
        iterate 5 intro _
        intro l _ hl0 hlk1 hml
        iterate 5 intro _
        intro X _ hXr
        iterate 4 intro _
        intro EB _ hk70 aE7 zE7 _ _ SB
        iterate 10 intro _
        intro hev0 _ _ _ hl18
        iterate 4 intro _
        intro wc
        iterate 177 intro _
        intro hbE hch2 hb2 hI2 hbS y _ hB
        have hev:Hid (evO m.c bf n=if relB m.c.b && okC m.c then some (mkE 2 m.c.par ln m.c.b n ln) else none):=Lib.hid (by
         rw [hev0.out,if_pos]
         rcases hB with ⟨h,_⟩ | ⟨_,h⟩
         ·cases h
         ·exact h)
        have hgu:Gr wc wc.drew:=(Gr.refl wc).drew
        have hb4:=hb2.gr hgu
        have hE4:=hbE.gr hgu
        have hS4:=hbS.gr hgu
        have hI4:=hI2.by hgu
        clear hgu hB hb2 hbE hbS hI2 hch2
        go_upto_region 23 with fail
        refine wp_region_still (Keep 6 (fun y=>Blk y X 81 l)) 13 rfl (by as_aux_lemma=>kernel_rfl) ?_
        show stillAny _ _ _ _ _ _ #[false,false,false,false,false,false,false,false,false,false,false,false,false] _ _
        generalize wc.drew=U at *
        refine still_pure 0 (v:=.pointer (some ⟨X,0,none⟩)) rfl (by as_aux_lemma=>kernel_rfl) (by as_aux_lemma=>kernel_rfl) (by as_aux_lemma=>kernel_rfl) (fun _=>hb4) rfl (fun w hw=>?_) ?_
        ·simp [execOp,go_sem] <;> (intros;omega)
        simp only [Act.put,zI,zS,zZ]
        refine still_pure 1 (v:=.int .i64 ln) rfl (by as_aux_lemma=>kernel_rfl) (by as_aux_lemma=>kernel_rfl) (by as_aux_lemma=>kernel_rfl) (fun _=>hb4) rfl (fun w hw=>?_) ?_
        ·replace hw:=hw (by decide)
         have hq0:=hw.lt
         have hq1:=(hw.cel.2 0 _ hl0).1
         (try simp at hq0 hq1)
         simp [execOp,go_sem,hq0,hq1]
        simp only [Act.put,zI,zS,zZ]
        refine still_pure 2 (v:=.pointer (some ⟨X,18,none⟩)) rfl (by as_aux_lemma=>kernel_rfl) (by as_aux_lemma=>kernel_rfl) (by as_aux_lemma=>kernel_rfl) (fun _=>hb4) rfl (fun w hw=>?_) ?_
        ·simp [execOp,go_sem] <;> (intros;omega)
        simp only [Act.put,zI,zS,zZ]
        refine still_pure 3 (v:=.int .i64 m.c.par) rfl (by as_aux_lemma=>kernel_rfl) (by as_aux_lemma=>kernel_rfl) (by as_aux_lemma=>kernel_rfl) (fun _=>hb4) rfl (fun w hw=>?_) ?_
        ·replace hw:=hw (by decide)
         have hq0:=hw.lt
         have hq1:=(hw.cel.2 18 _ hl18).1
         (try simp at hq0 hq1)
         simp [execOp,go_sem,hq0,hq1]
        simp only [Act.put,zI,zS,zZ]
        refine still_pure 4 (v:=.pointer (some ⟨X,9,none⟩)) rfl (by as_aux_lemma=>kernel_rfl) (by as_aux_lemma=>kernel_rfl) (by as_aux_lemma=>kernel_rfl) (fun _=>hb4) rfl (fun w hw=>?_) ?_
        ·simp [execOp,go_sem] <;> (intros;omega)
        simp only [Act.put,zI,zS,zZ]
        refine still_pure 5 (v:=.agg m.c.b.cells.toArray) rfl (by as_aux_lemma=>kernel_rfl) (by as_aux_lemma=>kernel_rfl) (by as_aux_lemma=>kernel_rfl) (fun _=>hb4) rfl (fun w hw=>?_) ?_
        ·replace hw:=hw (by decide)
         have hcm:Cel w X m.cells:=by rw [hml.out];exact hw.cel
         exact exec_load_agg aE7 zE7 hk70 (.tmp 103) rfl X 9 rfl (box_src (P:=Tryz.prog) hk7.out hcm).2 hw.lt
        simp only [Act.put,zI,zS,zZ]
        obtain⟨z0,f0⟩:=hE4.cel.2 0 _ rfl
        obtain⟨z1,f1⟩:=hE4.cel.2 1 _ rfl
        obtain⟨z2,f2⟩:=hE4.cel.2 2 _ rfl
        have zl:=hE4.lt
        have hSn:=((hS4.other (p:=⟨EB,0,none⟩) (by simp;omega) (.int .i64 1)).other (p:=⟨EB,2,none⟩) (by simp;omega) (.int .i64 ln)).other (p:=⟨EB,1,none⟩) (by simp;omega) (.int .i64 m.c.par)
        have stB:=st_blk (P:=Tryz.prog) hSn (show m.c.b.cells.length=m.c.a.cells.length from rfl) (Sr.one m.c.b)
        have hlb7:m.c.b.cells.length=k7:=hk7.out
        refine still_next (j:=6) (by as_aux_lemma=>kernel_rfl) (by rfl) (fun R hR=>?_)
        (try simp only [zG,zH,zK])
        go_wp2_with fail
        refine only_normal (hR _ _ (Keep.step (fun h=>h)) ?_)
        clear hR R
        simp only [Act.put,zI,zS,zZ]
        refine still_next (j:=7) (by as_aux_lemma=>kernel_rfl) (by rfl) (fun R hR=>?_)
        (try simp only [zG,zH,zK])
        go_wp2_with fail
        refine only_normal (hR _ _ (Keep.step (fun h=>h.other (by simp;omega) _)) ?_)
        clear hR R
        simp only [Act.put,zI,zS,zZ]
        refine still_next (j:=8) (by as_aux_lemma=>kernel_rfl) (by rfl) (fun R hR=>?_)
        (try simp only [zG,zH,zK])
        go_wp2_with fail
        refine only_normal (hR _ _ (Keep.step (fun h=>h)) ?_)
        clear hR R
        simp only [Act.put,zI,zS,zZ]
        refine still_next (j:=9) (by as_aux_lemma=>kernel_rfl) (by rfl) (fun R hR=>?_)
        (try simp only [zG,zH,zK])
        go_wp2_with fail
        refine only_normal (hR _ _ (Keep.step (fun h=>h.other (by simp;omega) _)) ?_)
        clear hR R
        simp only [Act.put,zI,zS,zZ]
        refine still_next (j:=10) (by as_aux_lemma=>kernel_rfl) (by rfl) (fun R hR=>?_)
        (try simp only [zG,zH,zK])
        go_wp2_with fail
        refine only_normal (hR _ _ (Keep.step (fun h=>h)) ?_)
        clear hR R
        simp only [Act.put,zI,zS,zZ]
        refine still_next (j:=11) (by as_aux_lemma=>kernel_rfl) (by rfl) (fun R hR=>?_)
        (try simp only [zG,zH,zK])
        go_wp2_with fail
        refine only_normal (hR _ _ (Keep.step (fun h=>h.other (by simp;omega) _)) ?_)
        clear hR R
        simp only [Act.put,zI,zS,zZ]
        refine still_next (j:=12) (by as_aux_lemma=>kernel_rfl) (by rfl) (fun R hR=>?_)
        (try simp only [zG,zH,zK])
        go_wp2_with fail
        refine only_normal (hR _ _ (Keep.step (fun h=>h.setRow_other (by omega) _)) ?_)
        clear hR R
        simp only [Act.put,zI,zS,zZ]
        refine still_done (by as_aux_lemma=>kernel_rfl) ?_
        (try simp only [zG,zH,zK,zI,zS,zZ])
        have hbn:=(((hb4.other (p:=⟨EB,0,none⟩) (by simp;omega) (.int .i64 1)).other (p:=⟨EB,2,none⟩) (by simp;omega) (.int .i64 ln)).other (p:=⟨EB,1,none⟩) (by simp;omega) (.int .i64 m.c.par)).setRow_other (show X≠SB by omega) m.c.b.cells.toArray
        have hEn:=(((hE4.set 0 (.int .i64 1)).set 2 (.int .i64 ln)).set 1 (.int .i64 m.c.par)).setRow_other (show EB≠SB by omega) m.c.b.cells.toArray
        have hSr:=hSn.setRow m.c.b.cells
        have hIn:=(((hI4.farc hLB hLBw hBF3 (p:=⟨EB,0,none⟩) (by simp;omega) (fun x hx=>by have:=hXr x hx;simp;omega) (.int .i64 1)).farc hLB hLBw hBF3 (p:=⟨EB,2,none⟩) (by simp;omega) (fun x hx=>by have:=hXr x hx;simp;omega) (.int .i64 ln)).farc hLB hLBw hBF3 (p:=⟨EB,1,none⟩) (by simp;omega) (fun x hx=>by have:=hXr x hx;simp;omega) (.int .i64 m.c.par)).farr hLB hLBw hBF3 (g:=SB) (by omega) (fun x hx=>by have:=hXr x hx;omega) m.c.b.cells.toArray
        clear hb4 hE4 hS4 hI4 hSn stB z0 z1 z2 f0 f1 f2 zl
        generalize (((U.setCell ⟨EB,0,none⟩ (.int .i64 1)).setCell ⟨EB,2,none⟩ (.int .i64 ln)).setCell ⟨EB,1,none⟩ (.int .i64 m.c.par)).setRow SB m.c.b.cells.toArray=V at *
        replace hEn:Blk V EB 30 (evZo 1 m.c.par ln n (n+ln)):=hEn
        have v1:=(hbn.cel.2 1 _ hlk1).1
        have vl:=hbn.lt
        have el:=hEn.lt
        obtain⟨y0,g0⟩:=hEn.cel.2 0 _ rfl
        clear hlb7
        go_wp2
        go_meet
        first
        | exact⟨2,m.c.par,ln,m.c.b,rfl,hEn,hSr,hbn,hIn,hev,Lib.hid ⟨hvcm.b,.inr ⟨rfl,rfl⟩⟩⟩
        | exact⟨2,m.c.par,ln,m.c.b,rfl,hEn.set 0 (.int .i64 2),hSr.other (by simp;omega) _,hbn.other (by simp;omega) _,hIn.farc hLB hLBw hBF3 (by simp;omega) (fun x hx=>by have:=hXr x hx;simp;omega) _,hev,Lib.hid ⟨hvcm.b,.inr ⟨rfl,rfl⟩⟩⟩
set_option maxRecDepth 100000 in
set_option maxHeartbeats 8000000 in
theorem rof_yesG:rof_yesDef.LG:=by
     iterate 12 intro _
     intro N
     iterate 212 intro _
     intro n bf
     iterate 14 intro _
     intro m
     iterate 5 intro _
     intro hof
     iterate 16 intro _
     intro ck
     iterate 12 intro _
     intro hI2
     iterate 4 intro _
     intro y1
     iterate 5 intro _
     intro c1 _ c2 c3
     have q2:(m.c.kind == 2)=false:=by simp [c2]
     have q3:(m.c.kind == 3)=false:=by simp [c3]
     have hev:Hid (evO m.c bf n=none):=Lib.hid (by unfold evO;rw [if_neg c1,if_neg (by omega)])
     replace c1:=Lib.hid c1
     replace c2:=Lib.hid c2
     replace c3:=Lib.hid c3
     have hres:=hI2.res
     have hgr:=hI2.gr
     have hofN:Hid (ofL N [] 0 blkS=none):=Lib.hid (by rw [hof.out,ofL_none ck.out hev.out])
     have y0:=hres.lt
     obtain⟨y1,u1⟩:=hres.cel.2 0 _ rfl
     obtain⟨y2,u2⟩:=hres.cel.2 1 _ rfl
     obtain⟨y3,u3⟩:=hres.cel.2 2 _ rfl
     obtain⟨y4,u4⟩:=hres.cel.2 3 _ rfl
     go_wp2
     simp [bodyPost,results,Tryz.results21,go_sem,y1,y2,y3,y4]
     refine⟨⟨⟨#[]⟩,0,false,[]⟩,.slice none 0 0,3,⟨rfl,rfl⟩,?_,⟨EvsR.nil _,by decide,fun e he=>(by cases he),by decide⟩,fun a n c e=>(by injection e;omega),.inr ⟨rfl,rfl,fun acc' hacc=>?_⟩⟩
     ·repeat (first | (with_reducible exact hgr) | (with_reducible refine Gr.setCell ?_ (by simp) _))
     ·rw [hofN.out] at hacc
      cases hacc
set_option maxRecDepth 100000 in
set_option maxHeartbeats 8000000 in
theorem rof_yesH:rof_yesPDef.LH:=by
      iterate 241 intro _
      intro m
      iterate 220 intro _
      intro hX7 _ _ _ hl20 _ _ hl21 _ _ rb _ HP
      iterate 10 intro _
      cases rb with
      | false=>
       go_wp2_with (go_at_call 55;(with_reducible refine (HP.out _).mono ?_);rintro e w8 ⟨rfl,hg8⟩)
       go_meet
       exact⟨true,rfl,hg8,.inl ⟨rfl,rfl⟩⟩
      | true=>
       by_cases cg:m.c.gain=0
       ·have p1:(m.c.gain != 0)=false:=by simp [cg]
        by_cases cl:m.c.ch=[]
        ·have p2:decide (0<m.c.ch.length)=false:=by simp [cl]
         have ok1:okC m.c=true:=by unfold okC;simp [cg,cl]
         replace cg:=Lib.hid cg
         replace cl:=Lib.hid cl
         go_wp2_with (go_at_call 55;(with_reducible refine (HP.out _).mono ?_);rintro e w8 ⟨rfl,hg8⟩;have hX8:=hX7.gr hg8;have xl:=hX8.lt;have x20:=(hX8.cel.2 20 _ hl20).1;have x21:=(hX8.cel.2 21 _ hl21).1)
         go_meet
         exact⟨false,rfl,hg8,.inr ⟨rfl,by rw [ok1];rfl⟩⟩
        ·have p2:decide (0<m.c.ch.length)=true:=decide_eq_true (List.length_pos_iff.2 cl)
         have ok1:okC m.c=false:=by unfold okC;simp [cl]
         replace cg:=Lib.hid cg
         replace cl:=Lib.hid cl
         go_wp2_with (go_at_call 55;(with_reducible refine (HP.out _).mono ?_);rintro e w8 ⟨rfl,hg8⟩;have hX8:=hX7.gr hg8;have xl:=hX8.lt;have x20:=(hX8.cel.2 20 _ hl20).1;have x21:=(hX8.cel.2 21 _ hl21).1)
         go_meet
         exact⟨true,rfl,hg8,.inl ⟨rfl,by rw [ok1];rfl⟩⟩
       ·have p1:(m.c.gain != 0)=true:=by simp [cg]
        have ok1:okC m.c=false:=by unfold okC;simp [cg]
        replace cg:=Lib.hid cg
        go_wp2_with (go_at_call 55;(with_reducible refine (HP.out _).mono ?_);rintro e w8 ⟨rfl,hg8⟩;have hX8:=hX7.gr hg8;have xl:=hX8.lt;have x20:=(hX8.cel.2 20 _ hl20).1;have x21:=(hX8.cel.2 21 _ hl21).1)
        go_meet
        exact⟨true,rfl,hg8,.inl ⟨rfl,by rw [ok1];rfl⟩⟩
set_option maxRecDepth 100000 in
set_option maxHeartbeats 8000000 in
theorem rof_yesI:rof_yesPDef.LI:=by
       iterate 12 intro _
       intro N
       iterate 212 intro _
       intro n bf
       iterate 14 intro _
       intro m
       iterate 5 intro _
       intro hof
       iterate 16 intro _
       intro ck
       iterate 202 intro _
       intro hev
       iterate 187 intro _
       intro hI8 hB
       replace hev:Hid (evO m.c bf n=none):=Lib.hid (by
        rw [hev.out,if_neg]
        rcases hB with ⟨_,h⟩ | ⟨h,_⟩
        ·rw [h];decide
        ·cases h)
       have hres:=hI8.res
       have hgr:=hI8.gr
       have hofN:Hid (ofL N [] 0 blkS=none):=Lib.hid (by rw [hof.out,ofL_none ck.out hev.out])
       have y0:=hres.lt
       obtain⟨y1,u1⟩:=hres.cel.2 0 _ rfl
       obtain⟨y2,u2⟩:=hres.cel.2 1 _ rfl
       obtain⟨y3,u3⟩:=hres.cel.2 2 _ rfl
       obtain⟨y4,u4⟩:=hres.cel.2 3 _ rfl
       go_wp2
       simp [bodyPost,results,Tryz.results21,go_sem,y1,y2,y3,y4]
       refine⟨⟨⟨#[]⟩,0,false,[]⟩,.slice none 0 0,3,⟨rfl,rfl⟩,?_,⟨EvsR.nil _,by decide,fun e he=>(by cases he),by decide⟩,fun a n c e=>(by injection e;omega),.inr ⟨rfl,rfl,fun acc' hacc=>?_⟩⟩
       ·repeat (first | (with_reducible exact hgr) | (with_reducible refine Gr.setCell ?_ (by simp) _))
       ·rw [hofN.out] at hacc
        cases hacc
set_option maxRecDepth 100000 in
set_option maxHeartbeats 8000000 in
theorem rof_yesA:rof_yesDef.LA:=by
   iterate 4 intro _
   intro title base drop w ht _ _ _ N
   iterate 7 intro _
   intro ts a _ htr
   iterate 4 intro _
   intro hTK _ _ _ aE zE hN hlt htt htc wr
   iterate 187 intro _
   intro j acc n _ lv hj hI hM c1
   have g1:decide ((j:Int)<ts.length)=false:=decide_eq_false (by omega)
   obtain rfl:j=ts.length:=by omega
   have hof:ofL N [] 0 blkS=some acc:=by rw [hM.out.2.2.2,List.drop_length];rfl
   have hEv:ElR wr lv ⟨title,base,drop,acc.reverse⟩:=⟨evs_own hI.row,ht,fun e he=>(hM.out.1 e (List.mem_reverse.1 he)).2.2.2.2.2,by have:=hM.out.2.1;simp;omega⟩
   have hcap:=own_capE hI.row
   have HE:Hid (∀ w',Gr wr w'→Calls Tryz.prog 14 #[.agg #[.string title,.int .i64 base,.bool drop,lv]] w' fun e w''=>e=.returned (.bool (vEl ⟨title,base,drop,acc.reverse⟩))∧Gr w' w''):=Lib.hid fun w' hg=>revalid_any _ lv w' (hEv.gr hg)
   have hne0:=own_ne hI.row w.heap.size (by omega)
   obtain⟨ra,rl,rc,hlv⟩:=own_slice hI.row
   subst hlv
   replace hof:=Lib.hid hof
   replace hEv:=Lib.hid hEv
   replace hcap:=Lib.hid hcap
   have hlb:=hI.lb
   have hres:=hI.res
   have hgr:=hI.gr
   clear hI hM hTK hN htr hj c1 htc htt hlt aE zE
   have x0:=hlb.lt
   have x1:=(hlb.cel.2 0 _ rfl).1
   have x2:=(hlb.cel.2 1 _ rfl).1
   have x3:=(hlb.cel.2 2 _ rfl).1
   have x4:=(hlb.cel.2 3 _ rfl).1
   obtain⟨B,hB⟩:∃ B,vEl ⟨title,base,drop,acc.reverse⟩=B:=⟨_,rfl⟩
   rw [hB] at HE
   replace hB:=Lib.hid hB
   cases B with
   | false=>
    go_upto_region 37 with (go_at_call 14;(with_reducible refine (HE.out _ (Gr.refl _)).mono ?_);rintro e w4 ⟨rfl,hg4⟩)
    have hr4:=hres.gr hg4
    have y0:=hr4.lt
    obtain⟨y1,u1⟩:=hr4.cel.2 0 _ rfl
    obtain⟨y2,u2⟩:=hr4.cel.2 1 _ rfl
    obtain⟨y3,u3⟩:=hr4.cel.2 2 _ rfl
    obtain⟨y4,u4⟩:=hr4.cel.2 3 _ rfl
    have hg5:=hgr.trans hg4
    clear x0 x1 x2 x3 x4
    go_wp2
    simp [bodyPost,results,Tryz.results21,go_sem,y1,y2,y3,y4]
    refine⟨⟨⟨#[]⟩,0,false,[]⟩,.slice none 0 0,3,⟨rfl,rfl⟩,?_,⟨EvsR.nil _,by decide,fun e he=>(by cases he),by decide⟩,fun a n c e=>(by injection e;omega),.inr ⟨rfl,rfl,fun acc' hacc=>?_⟩⟩
    ·repeat (first | (with_reducible exact hg5) | (with_reducible refine Gr.setCell ?_ (by simp) _))
    ·rw [hof.out] at hacc
     injection hacc with hacc
     rw [← hacc]
     exact hB.out
   | true=>
    go_upto_region 38 with (go_at_call 14;(with_reducible refine (HE.out _ (Gr.refl _)).mono ?_);rintro e w4 ⟨rfl,hg4⟩)
    have hr4:=hres.gr hg4
    have hlb4:=hlb.gr hg4
    have z0:=hlb4.lt
    have z1:=(hlb4.cel.2 0 _ rfl).1
    have z2:=(hlb4.cel.2 1 _ rfl).1
    have z3:=(hlb4.cel.2 2 _ rfl).1
    have z4:=(hlb4.cel.2 3 _ rfl).1
    have y0:=hr4.lt
    obtain⟨y1,u1⟩:=hr4.cel.2 0 _ rfl
    obtain⟨y2,u2⟩:=hr4.cel.2 1 _ rfl
    obtain⟨y3,u3⟩:=hr4.cel.2 2 _ rfl
    obtain⟨y4,u4⟩:=hr4.cel.2 3 _ rfl
    have hEv4:=Lib.hid (hEv.out.gr hg4)
    have hg5:=hgr.trans hg4
    clear x0 x1 x2 x3 x4
    go_wp2
    simp [bodyPost,results,Tryz.results21,go_sem,y1,y2,y3,y4]
    refine⟨⟨title,base,drop,acc.reverse⟩,.slice ra rl rc,0,⟨rfl,rfl⟩,?_,⟨?_,ht,hEv4.out.r,hEv4.out.n⟩,hcap.out,.inl ⟨rfl,acc,hof.out,rfl,hB.out⟩⟩
    ·repeat (first | (with_reducible exact hg5) | (with_reducible refine Gr.setCell ?_ (by simp) _))
    ·exact Rd.off (p:=⟨w.heap.size,3,none⟩) (Rd.off (p:=⟨w.heap.size,2,none⟩) (Rd.off (p:=⟨w.heap.size,1,none⟩) (Rd.off (p:=⟨w.heap.size,0,none⟩) hEv4.out.evs hne0 _) hne0 _) hne0 _) hne0 _
end Go.Proofs.YtgbiodnfpbhjiaaGreatDoor
