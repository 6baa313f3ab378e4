/-
  Contract of plain of the reference.
  Conditions: the source is valid.
-/
import Derived.Test.YtgbiodnfpbhjiaaGreatDoorWalkOfA
import Derived.Test.YtgbiodnfpbhjiaaGreatDoorWalkUe
import Derived.Test.YtgbiodnfpbhjiaaGreatDoorMathCf
import Derived.Test.YtgbiodnfpbhjiaaGreatDoorWalkOfL
import Derived.Test.YtgbiodnfpbhjiaaGreatDoorWalkVk
namespace Go.Proofs.YtgbiodnfpbhjiaaGreatDoor
open Go.RowKit Go.Lib
set_option linter.unusedSimpArgs false
set_option linter.unusedVariables false
set_option maxRecDepth 20000 in
set_option maxHeartbeats 2000000 in
theorem rplain_core (k7:Nat) (hk7:7=k7) (s:Sr) (w:World) (hv:vSr s):Calls Tryz.prog 55 #[s.val] w fun e w'=>e=.returned (.bool (relB s))∧Gr w w':=by
 have aE7:∀ w,(isAgg 79).run Tryz.prog w=.ok true w:=Tryz.isAgg79
 have zE7:∀ w,(Go.sizeOf 79).run Tryz.prog w=.ok k7 w:=fun w=>by rw [← hk7];exact Tryz.sizeOf79 w
 have hk0:¬ k7=0:=by omega
 have hbx:Cel (w.alloc (.cells s.cells.toArray 79)) w.heap.size s.cells:=Cel.new w s.cells.toArray 79
 have hgA:Gr w (w.alloc (.cells s.cells.toArray 79)):=(Gr.refl w).alloc _
 have l1:s.cells[1]?=some (.string s.nm):=rfl
 have l2:s.cells[2]?=some (.int .i64 s.an):=rfl
 have hlk:s.cells.length=k7:=by rw [← hk7];rfl
 have hB:Hid (∀ w',Calls Tryz.prog 57 #[.agg s.cells.toArray] w' fun e w''=>e=.returned (.bool (decide (s=blkS)))∧Gr w' w''):=Lib.hid fun w'=>rblack_any s w'
 rw [show s.val=.agg s.cells.toArray from rfl]
 have hS:Hid (∀ w',Calls Tryz.prog 45 #[.string s.nm,.int .i64 s.an] w' fun e w''=>e=.returned (.agg (plS s.nm s.an).cells.toArray)∧Gr w' w''):=Lib.hid fun w'=>rsource_any s.nm s.an w'
 have hq:∀ w,(binOp .eql 79 (.agg s.cells.toArray) (.agg (plS s.nm s.an).cells.toArray)).run Tryz.prog w=.ok (.bool (decide (s=plS s.nm s.an))) w:=fun w=>eq_src s (plS s.nm s.an) w
 have x:=hbx.lt
 replace hk7:=Lib.hid hk7
 by_cases c0:s=blkS
 ·have e3:relB s=true:=by rw [c0];decide
  rw [e3]
  rw [decide_eq_true c0] at hB
  clear e3 c0 hv hq hS
  generalize s.cells=l at *
  generalize s.nm=nm at *
  generalize s.an=an at *
  go_enter Tryz.func55,Tryz.ntmps55
  go_upto_region 1 with fail
  generalize w.alloc (.cells l.toArray 79)=W at *
  have y1:=(hbx.2 1 _ l1).1
  have y2:=(hbx.2 2 _ l2).1
  have la:∀ x:GW W,Sem.run Tryz.prog (loadCellsFrom ⟨w.heap.size,0,none⟩ 0 k7 #[]) x.w=.ok l.toArray x.w:=fun x=>ld_cel hlk (hbx.gr x.h)
  refine wp_region_gr (by kernel_rfl) (by kernel_rfl) (fun hq1 hq2=>?_)
  repeat (first | go_big_quiet_skip | (go_big_quiet_want;go_big_quiet_op;first | go_big_quiet_on | (apply Exists.intro;refine⟨fun _=>?_,?_⟩;(· ((go_at_call 57;exact gr_call (hB.out _))));go_big_quiet_on)))
  refine wpQuiet_nil ?_
  clear hq1 hq2
  rintro w1 ⟨⟨_,hg1⟩,rfl⟩
  obtain⟨hc1,hf1⟩:=hg1.cells
  have hz1:=hg1.size
  (try simp at hz1);(try have hl1_0_0:w.heap.size<w1.heap.size:=by omega);(try have hm1_0_0:w.heap.size≤w1.heap.size:=by omega);(try have hl1_0_1:w.heap.size+1<w1.heap.size:=by omega);(try have hl1_0_2:w.heap.size+2<w1.heap.size:=by omega)
  go_wp2
  go_ret
  exact⟨rfl,hgA.trans hg1⟩
 ·have hk:s.k≠0:=by
   rcases hv with h | h
   ·exact absurd h c0
   ·have:=h.k;omega
  have e3:relB s=decide (s=plS s.nm s.an):=by unfold relB;rw [decide_eq_false hk];rfl
  rw [e3]
  rw [decide_eq_false c0] at hB
  clear e3 c0 hk hv
  obtain⟨R,hR⟩:∃ R,decide (s=plS s.nm s.an)=R:=⟨_,rfl⟩
  rw [hR] at hq ⊢
  clear hR
  generalize (plS s.nm s.an).cells=lp at *
  generalize s.cells=l at *
  generalize s.nm=nm at *
  generalize s.an=an at *
  go_enter Tryz.func55,Tryz.ntmps55
  go_upto_region 1 with fail
  generalize w.alloc (.cells l.toArray 79)=W at *
  have y1:=(hbx.2 1 _ l1).1
  have y2:=(hbx.2 2 _ l2).1
  have la:∀ x:GW W,Sem.run Tryz.prog (loadCellsFrom ⟨w.heap.size,0,none⟩ 0 k7 #[]) x.w=.ok l.toArray x.w:=fun x=>ld_cel hlk (hbx.gr x.h)
  refine wp_region_gr (by kernel_rfl) (by kernel_rfl) (fun hq1 hq2=>?_)
  repeat (first | go_big_quiet_skip | (go_big_quiet_want;go_big_quiet_op;first | go_big_quiet_on | (apply Exists.intro;refine⟨fun _=>?_,?_⟩;(· (first | (go_at_call 57;exact gr_call (hB.out _)) | (go_at_call 45;exact gr_call (hS.out _))));go_big_quiet_on)))
  refine wpQuiet_nil ?_
  clear hq1 hq2
  rintro w1 ⟨⟨_,hg1⟩,rfl⟩
  obtain⟨hc1,hf1⟩:=hg1.cells
  have hz1:=hg1.size
  (try simp at hz1);(try have hl1_0_0:w.heap.size<w1.heap.size:=by omega);(try have hm1_0_0:w.heap.size≤w1.heap.size:=by omega);(try have hl1_0_1:w.heap.size+1<w1.heap.size:=by omega);(try have hl1_0_2:w.heap.size+2<w1.heap.size:=by omega)
  go_wp2
  go_ret
  exact⟨rfl,hgA.trans hg1⟩
theorem rplain_any (s:Sr) (w:World) (hv:vSr s):Calls Tryz.prog 55 #[s.val] w fun e w'=>e=.returned (.bool (relB s))∧Gr w w':=rplain_core 7 rfl s w hv
theorem look_cnt2 {c d:Cl} {bf:Sr} {n:Int} {e:Ev} (hc:VC c) (hb:relB c.b=true→-2199023255552≤relI c.b∧relI c.b≤2199023255552) (he:evO c bf n=some e):lookB e c d=cntE e d:=by
 obtain⟨i1,i2,i3,i4⟩:=evO_ie hc he
 have hl:=hc.len
 unfold lookB cntE
 rw [decide_eq_decide]
 unfold evO at he
 split at he
 ·split at he
  ·injection he with he
   subst he
   constructor
   ·rintro ⟨h,_⟩;exact absurd h (by show ¬ (0:Int)<0;omega)
   ·rintro ⟨h,_⟩;exact absurd rfl h
  ·cases he
 ·rename_i hk1
  split at he
  ·rename_i hk
   split at he
   ·split at he
    ·rename_i hr
     injection he with he
     rw [Bool.and_eq_true] at hr
     have hp:=relB_pl hc.b hr.1
     have hb:=hb hr.1
     subst he
     have hm:mvS c.b c.len=plS (mkE (c.kind - 1) c.par c.len c.b n c.len).reel (mkE (c.kind - 1) c.par c.len c.b n c.len).o:=by
      rw [hp,plS_mv _ (by omega) (by omega),mkE_plS _ _ _ _ _ _ _ (rel_zero hc.b)]
      simp only
      by_cases hs:(relN c.b).size=0
      ·rw [plS_zero hs,plS_zero hs]
      ·rw [if_neg hs]
     rw [hm]
     constructor
     ·rintro ⟨h1,h2⟩
      exact⟨by show c.kind - 1≠0;omega,by show n+c.len - n=c.len;omega,h2⟩
     ·rintro ⟨h1,h2,h3⟩
      exact⟨hl.1,h3⟩
    ·cases he
   ·cases he
  ·cases he
theorem ofL_eq2:∀ (N:Nat) (l:List Cl) (acc:List Ev) (n:Int),l.length≤N→(∀ c∈l,VC c)→(∀ c∈l,relB c.b=true→-2199023255552≤relI c.b∧relI c.b≤2199023255552)→(∀ x∈acc,IE x)→endA acc≤n →
  (∀ x r c,acc=x :: r→l.head?=some c→x.t=n→cntE x c=false)→ofL l acc n (bfR acc n)=ofR l acc n
 | N,[],acc,n,_,_,_,_,_,_=>by rw [ofL,ofR]
 | 0,c :: l,acc,n,h,_,_,_,_,_=>by simp at h
 | N+1,c :: l,acc,n,hN,hv,hb,hacc,h1,hx=>by
  have hc:=hv c List.mem_cons_self
  have hv':∀ d∈l,VC d:=fun d hd=>hv d (List.mem_cons_of_mem _ hd)
  have hb':∀ d∈l,relB d.b=true→-2199023255552≤relI d.b∧relI d.b≤2199023255552:=fun d hd=>hb d (List.mem_cons_of_mem _ hd)
  have hl:=hc.len
  have hs:ofS acc n c=if c.kind=0 then some acc else (evO c (bfR acc n) n).map (fun e=>e :: acc):=by
   unfold ofS
   split
   ·rfl
   ·cases acc with
    | nil=>rfl
    | cons x r=>
     simp only
     rw [if_neg]
     rintro ⟨h2,h3⟩
     rw [hx x r c rfl rfl h2] at h3
     cases h3
  rw [ofR,hs]
  cases l with
  | nil=>
   rw [ofL]
   split
   ·rfl
   ·cases evO c (bfR acc n) n <;> rfl
  | cons d l=>
   rw [ofL]
   split
   ·have hbf:bfR acc (n+c.len)=blkS:=by
     cases acc with
     | nil=>rfl
     | cons x r=>rw [bfR_cons,if_neg (by have:x.t≤n:=h1;omega)]
    have ih:=ofL_eq2 N (d :: l) acc (n+c.len) (by simp at hN ⊢;omega) hv' hb' hacc (by omega) (fun x r y hxr _ ht=>by subst hxr;have:x.t≤n:=h1;omega)
    rw [hbf] at ih
    exact ih
   ·rename_i hk
    cases he:evO c (bfR acc n) n with
    | none=>rfl
    | some e=>
     obtain⟨i1,i2,i3,i4⟩:=evO_ie hc he
     have hie:∀ x∈e :: acc,IE x:=fun x hx=>by
      rcases List.mem_cons.1 hx with rfl | hx
      ·exact i1
      ·exact hacc x hx
     have hd:=hv' d List.mem_cons_self
     have hdl:=hd.len
     simp only [Option.map_some,Option.bind_some]
     rw [look_cnt2 (d:=d) hc (hb c List.mem_cons_self) he]
     split
     ·rename_i hcn
      have hS2:ofS (e :: acc) (n+c.len) d=some (extE e d.len :: acc):=by
       unfold ofS
       rw [if_neg (by unfold cntE at hcn;rw [decide_eq_true_eq] at hcn;have:=hcn.2.2.1;omega)]
       simp only
       rw [if_pos (by exact⟨i3,hcn⟩)]
      rw [ofR,hS2]
      obtain⟨j1,j2,j3⟩:=ofS_ie hie (by show e.t≤_;omega) hd hS2
      have ih:=ofL_eq2 N l (extE e d.len :: acc) (n+c.len+d.len) (by simp at hN;omega) (fun x hx=>hv' x (List.mem_cons_of_mem _ hx)) (fun x hx=>hb' x (List.mem_cons_of_mem _ hx)) j1 j2 (fun x r y hxr _ ht=>by
       injection hxr with hxr _
       subst hxr
       unfold cntE at hcn ⊢
       rw [decide_eq_true_eq] at hcn
       rw [decide_eq_false_iff_not]
       rintro ⟨_,h2,_⟩
       have h2:e.t+d.len - e.f=e.fr:=h2
       omega)
      have hbf:bfR (extE e d.len :: acc) (n+c.len+d.len)=plS e.reel (extE e d.len).o:=by
       rw [bfR_cons,if_pos (by show e.t+d.len=_;omega)]
       rfl
      rw [hbf] at ih
      exact ih
     ·rename_i hcn
      have ih:=ofL_eq2 N (d :: l) (e :: acc) (n+c.len) (by simp at hN ⊢;omega) hv' hb' hie (by show e.t≤_;omega) (fun x r y hxr hy ht=>by
       injection hxr with hxr _
       injection hy with hy
       subst hxr hy
       simpa using hcn)
      have hbf:bfR (e :: acc) (n+c.len)=plS e.reel e.o:=by
       rw [bfR_cons,if_pos (by omega)]
      rw [hbf] at ih
      exact ih
theorem rel_small {s:Sr} (h:vSr s) (hr:relB s=true):-2199023255552≤relI s∧relI s≤2199023255552:=by
 unfold relI
 rcases h with rfl | h
 ·decide
 ·have hk:s.k≠0:=by have:=h.k;omega
  rw [if_neg hk]
  unfold relB at hr
  rw [Bool.or_eq_true,decide_eq_true_eq,decide_eq_true_eq] at hr
  rcases hr with hr | hr
  ·exact absurd hr hk
  ·have hd:s.ad=1∨s=blkS:=by
    rw [hr]
    unfold plS
    split
    ·exact .inr rfl
    ·exact .inl rfl
   rcases hd with hd | hd
   ·have:=h.a2
    rw [hd] at this
    omega
   ·exact absurd (by rw [hd];rfl) hk
theorem ofL_start {l:List Cl} (h:∀ c∈l,VC c):ofL l [] 0 blkS=ofR l [] 0:=
 ofL_eq2 l.length l [] 0 (Nat.le_refl _) h (fun c hc hr=>rel_small (h c hc).b hr) (fun x hx=>by cases hx) (Int.le_refl _) (fun x r c hx=>by cases hx)
structure OgI (w Wn:World) (LB BF:Nat) (title:ByteArray) (base:Int) (drop:Bool) (bf:Sr) (lv:Value) (acc:List Ev) (wr:World):Prop where
 kp:Kp Wn LB wr
 gr:Gr w wr
 res:Blk wr w.heap.size 24 [.string ⟨#[]⟩,.int .i64 0,.bool false,.slice none 0 0]
 lb:Blk wr LB 24 [.string title,.int .i64 base,.bool drop,lv]
 bfb:Blk wr BF 79 bf.cells
 row:wr.ownsRow (BF+1) 30 8 lv acc.length (eflat acc.reverse)
theorem OgI.by {w Wn:World} {LB BF:Nat} {title:ByteArray} {base:Int} {drop:Bool} {bf:Sr} {lv:Value} {acc:List Ev} {wr wx:World} (h:OgI w Wn LB BF title base drop bf lv acc wr) (hg:Gr wr wx):OgI w Wn LB BF title base drop bf lv acc wx:=
 ⟨h.kp.gr hg,h.gr.trans hg,h.res.gr hg,h.lb.gr hg,h.bfb.gr hg,row_gr h.row hg⟩
theorem OgI.push {w Wn:World} {LB BF:Nat} {title:ByteArray} {base:Int} {drop:Bool} {bf:Sr} {lv v9:Value} {acc:List Ev} {wr w9:World} (h:OgI w Wn LB BF title base drop bf lv acc wr) (h1:w.heap.size<LB) (h2:LB<Wn.heap.size) (h3:Wn.heap.size≤BF) (e:Ev)
  (hown:w9.ownsRow (BF+1) 30 8 v9 (acc.length+1) (eflat acc.reverse ++ e.cells)) (hg:wr.grownBy w9 lv.ownBlock):OgI w Wn LB BF title base drop bf v9 (e :: acc) (w9.setCell ⟨LB,3,none⟩ v9):=by
 have hge:=own_ge h.row
 have hge9:=own_ge hown
 have hgS:=grown_setCell w9 ⟨LB,3,none⟩ v9
 have hne9:v9.ownBlock≠some LB:=fun h=>by have:=hge9 _ h;omega
 have hlb:=(h.lb.grown hg (fun e=>by have:=hge _ e;omega)).set 3 v9
 simp only [zS,zZ] at hlb
 refine⟨(h.kp.grow hg (fun k hk=>by have:=hge _ hk;omega)).put v9,(h.gr.grown hg (fun k hk=>by have:=hge _ hk;omega)).grown hgS (fun k hk=>by injection hk with hk;simp only at hk;omega),(h.res.grown hg (fun e=>by have:=hge _ e;omega)).other (by simp only;omega) v9,hlb,(h.bfb.grown hg (fun e=>by have:=hge _ e;omega)).other (by simp only;omega) v9,?_⟩
 have:=World.ownsRow.kept hown hgS (.inr hne9)
 rw [List.reverse_cons,eflat_append,List.length_cons]
 have hone:eflat [e]=e.cells:=by rw [eflat_cons];exact List.append_nil _
 rw [hone]
 exact this
theorem OgI.setbf {w Wn:World} {LB BF:Nat} {title:ByteArray} {base:Int} {drop:Bool} {bf:Sr} {lv:Value} {acc:List Ev} {wr:World} (h:OgI w Wn LB BF title base drop bf lv acc wr) (h1:w.heap.size<LB) (h2:LB<Wn.heap.size) (h3:Wn.heap.size≤BF) (s:Sr):OgI w Wn LB BF title base drop s lv acc (wr.setRow BF s.cells.toArray):=by
 have hg:=grown_setRow wr BF s.cells.toArray
 have hge:=own_ge h.row
 exact⟨h.kp.grown hg h3,h.gr.grown hg (fun k hk=>by injection hk with hk;omega),h.res.setRow_other (by omega) _,h.lb.setRow_other (by omega) _,h.bfb.setRow s.cells,World.ownsRow.kept h.row hg (.inr (fun e=>by have:=hge _ e;omega))⟩
set_option maxRecDepth 20000 in
set_option maxHeartbeats 4000000 in
theorem rof_no (cs:List CM) (v:Value) (title:ByteArray) (base:Int) (drop:Bool) (w:World) (h:TrR w v cs) (hok:∀ c∈cs,ClOk c.c) (ht:title.size≤140737488355328)
  (hno:¬ (C19.okB base drop=true∧vtB (cs.map CM.c)=true∧vLine title=true)) :
  Calls Tryz.prog 21 #[v,.string title,.int .i64 base,.bool drop] w fun e w'=>e=.returned (.tuple #[.agg #[.string ⟨#[]⟩,.int .i64 0,.bool false,.slice none 0 0],.int .i64 1])∧Gr w w':=by
 have HV:Hid (∀ w',Gr w w'→Calls Tryz.prog 53 #[v] w' fun e w''=>e=.returned (.bool (vtB (cs.map CM.c)))∧Gr w' w''):=Lib.hid fun w' hg=>rvtrack_any cs v w' (h.gr hg) hok
 have HT:Hid (∀ w',Calls Tryz.prog 39 #[.string title] w' fun e w''=>e=.returned (.bool (vLine title))∧Gr w' w''):=Lib.hid fun w'=>rvalidLine_any title w' ht
 have HD:Hid (∃ d en:Int,(C19.okB base drop=true→en=0)∧(C19.okB base drop=false→en=1)∧∀ w',Calls Tryz.prog 38 #[.int .i64 base,.bool drop] w' fun e w''=>e=.returned (.tuple #[.int .i64 d,.int .i64 en])∧w'=w''):=Lib.hid (by
  cases ho:C19.okB base drop with
  | false=>exact⟨0,1,fun e=>(by cases e),fun _=>rfl,fun w'=>C19.rday_no base drop w' ho⟩
  | true=>exact⟨C19.dayN base drop,0,fun _=>rfl,fun e=>(by cases e),fun w'=>C19.rday_yes base drop w' ho⟩)
 obtain⟨d,en,hen0,hen1,HD⟩:=HD.out
 replace HD:=Lib.hid HD
 generalize vtB (cs.map CM.c)=bt at *
 generalize vLine title=bl at *
 have hb0:=Blk.new w [.string ⟨#[]⟩,.int .i64 0,.bool false,.slice none 0 0] 24
 have hgA:Gr w (w.alloc (.cells #[.string ⟨#[]⟩,.int .i64 0,.bool false,.slice none 0 0] 24)):=(Gr.refl w).alloc _
 simp only [List.toArray] at hb0
 have hway:en=1∨(en=0∧bt=false)∨(en=0∧bt=true∧bl=false):=by
  cases ho:C19.okB base drop with
  | false=>exact .inl (hen1 ho)
  | true=>
   cases bt with
   | false=>exact .inr (.inl ⟨hen0 ho,rfl⟩)
   | true=>
    cases bl with
    | false=>exact .inr (.inr ⟨hen0 ho,rfl,rfl⟩)
    | true=>exact absurd ⟨ho,rfl,rfl⟩ hno
 clear hno hen0 hen1 h hok ht
 rcases hway with rfl | ⟨rfl,rfl⟩ | ⟨rfl,rfl,rfl⟩
 ·go_enter Tryz.func21,Tryz.ntmps21
  go_upto_region 3 with (go_at_call 38;(with_reducible refine (HD.out _).mono ?_);rintro e w0 ⟨rfl,rfl⟩)
  have f0:=hb0.lt
  obtain⟨c1,f1⟩:=hb0.cel.2 0 _ rfl
  obtain⟨c2,f2⟩:=hb0.cel.2 1 _ rfl
  obtain⟨c3,f3⟩:=hb0.cel.2 2 _ rfl
  obtain⟨c4,f4⟩:=hb0.cel.2 3 _ rfl
  go_wp2
  simp [bodyPost,results,Tryz.results21,go_sem,c1,c2,c3,c4]
  repeat (first | (with_reducible exact hgA) | (with_reducible refine Gr.setCell ?_ (by simp) _))
 ·go_enter Tryz.func21,Tryz.ntmps21
  go_upto_region 3 with (first
   | (go_at_call 38;(with_reducible refine (HD.out _).mono ?_);rintro e w0 ⟨rfl,rfl⟩)
   | (go_at_call 53;(with_reducible refine (HV.out _ hgA).mono ?_);rintro e w1 ⟨rfl,hg1⟩))
  have hb1:=hb0.gr hg1
  have hg:=hgA.trans hg1
  have f0:=hb1.lt
  obtain⟨c1,f1⟩:=hb1.cel.2 0 _ rfl
  obtain⟨c2,f2⟩:=hb1.cel.2 1 _ rfl
  obtain⟨c3,f3⟩:=hb1.cel.2 2 _ rfl
  obtain⟨c4,f4⟩:=hb1.cel.2 3 _ rfl
  go_wp2
  simp [bodyPost,results,Tryz.results21,go_sem,c1,c2,c3,c4]
  repeat (first | (with_reducible exact hg) | (with_reducible refine Gr.setCell ?_ (by simp) _))
 ·go_enter Tryz.func21,Tryz.ntmps21
  go_upto_region 3 with (first
   | (go_at_call 38;(with_reducible refine (HD.out _).mono ?_);rintro e w0 ⟨rfl,rfl⟩)
   | (go_at_call 53;(with_reducible refine (HV.out _ hgA).mono ?_);rintro e w1 ⟨rfl,hg1⟩)
   | (go_at_call 39;(with_reducible refine (HT.out _).mono ?_);rintro e w2 ⟨rfl,hg2⟩))
  have hb1:=(hb0.gr hg1).gr hg2
  have hg:=(hgA.trans hg1).trans hg2
  have f0:=hb1.lt
  obtain⟨c1,f1⟩:=hb1.cel.2 0 _ rfl
  obtain⟨c2,f2⟩:=hb1.cel.2 1 _ rfl
  obtain⟨c3,f3⟩:=hb1.cel.2 2 _ rfl
  obtain⟨c4,f4⟩:=hb1.cel.2 3 _ rfl
  go_wp2
  simp [bodyPost,results,Tryz.results21,go_sem,c1,c2,c3,c4]
  repeat (first | (with_reducible exact hg) | (with_reducible refine Gr.setCell ?_ (by simp) _))
theorem exec_load_agg {P:Program} {T:TypeId} {k:Nat} (hA:∀ w,(isAgg T).run P w=.ok true w) (hZ:∀ w,(Go.sizeOf T).run P w=.ok k w) (hk0:¬ k=0) {ρ:Operand→Value} {o:Oper} (x:Operand) (ho:o.op=.load T x) (X off:Nat) (hx:ρ x=.pointer (some ⟨X,off,none⟩)) {l:List Value} {w:World}
  (hl:(loadCellsFrom ⟨X,off,none⟩ 0 k #[]).run P w=.ok l.toArray w) (hb:X<w.heap.size):(execOp ρ o).run P w=.ok (.value (.agg l.toArray)) w:=by
 simp [execOp,ho,hx,go_sem,hA,hZ,hl,hb,hk0]
theorem exec_add {P:Program} {T:TypeId} {T2:TypeId} {ρ:Operand→Value} {o:Oper} (x y:Operand) (ho:o.op=.binOp .add T x y T2) {m n:Int} (hx:ρ x=.int .i64 m) (hy:ρ y=.int .i64 n) (hw:IntKind.i64.wrap (m+n)=m+n) (w:World):(execOp ρ o).run P w=.ok (.value (.int .i64 (m+n))) w:=by
 simp [execOp,ho,hx,hy,go_sem,hw]
theorem exec_sub {P:Program} {T:TypeId} {T2:TypeId} {ρ:Operand→Value} {o:Oper} (x y:Operand) (ho:o.op=.binOp .sub T x y T2) {m n:Int} (hx:ρ x=.int .i64 m) (hy:ρ y=.int .i64 n) (hw:IntKind.i64.wrap (m - n)=m - n) (w:World):(execOp ρ o).run P w=.ok (.value (.int .i64 (m - n))) w:=by
 simp [execOp,ho,hx,hy,go_sem,hw]
end Go.Proofs.YtgbiodnfpbhjiaaGreatDoor
