/-
  Contract of ValidTrack of package timeline, over the contract of ValidClip.
  Conditions: the track lies in memory.
-/
import Derived.Test.YtnginfangeikpaaGreatDoorClip
import Derived.Test.YtnginfangeikpaaGreatDoorShS
import Derived.Deep.DeepCutAuto
import Derived.WalkSpells
import Derived.Test.YtnginfangeikpaaGreatDoorShW
import Derived.Test.YtnginfangeikpaaGreatDoorMathCa
namespace Go.Proofs.YtnginfangeikpaaGreatDoor
open Go.RowKit Go.Lib
set_option linter.unusedSimpArgs false
set_option linter.unusedVariables false
theorem infoClip:(Tryz.prog.info? 61).map (·.size)=some 22:=by kernel_rfl
def totM:List CM→Int
 | []=>0
 | m :: l=>m.c.len+totM l
theorem totM_take {cs:List CM} {j:Nat} (hj:j<cs.length):totM (cs.take (j+1))=totM (cs.take j)+cs[j].c.len:=by
 induction cs generalizing j with
 | nil=>simp at hj
 | cons c cs ih=>
  cases j with
  | zero=>simp [totM]
  | succ j=>
   have:=ih (j:=j) (by simpa using hj)
   simp only [List.take_succ_cons,totM,zH,this]
   omega
set_option maxRecDepth 20000 in
set_option maxHeartbeats 4000000 in
theorem vtrack_core (k:Nat) (hk22:22=k) (okC:CM→Bool) (cs:List CM) (v:Value) (w:World) (h:TrR w v cs) (hl:∀ c∈cs,okC c=true→0≤c.c.len∧c.c.len≤2147483647)
  (HC:Hid (∀ c∈cs,∀ w',Gr w w'→Calls Tryz.prog 59 #[c.val] w' fun e w''=>e=.returned (.bool (okC c))∧Gr w' w'')) :
  Calls Tryz.prog 34 #[v] w fun e w'=>e=.returned (.bool (decide (cs.length≤64) && (cs.all okC && decide (totM cs≤2147483647))))∧Gr w w':=by
 have aE:∀ w,(isAgg 61).run Tryz.prog w=.ok true w:=Tryz.isAgg61
 have zE:∀ w,(Go.sizeOf 61).run Tryz.prog w=.ok k w:=fun w=>by rw [← hk22];exact Tryz.sizeOf61 w
 replace hk22:=Lib.hid hk22
 obtain⟨a,cap,rfl,ha⟩:=h.shape
 have hch:=h.ch
 clear h
 replace ha:=Lib.hid ha
 replace hch:=Lib.hid hch
 replace hl:=Lib.hid hl
 go_enter Tryz.func34,Tryz.ntmps34
 by_cases c6:64<cs.length
 ·have q6:decide (64<(cs.length:Int))=true:=decide_eq_true (by omega)
  rw [decide_eq_false (by omega:¬ cs.length≤64)]
  go_wp2
  go_ret
  exact⟨rfl,(by repeat (first | with_reducible exact Gr.refl _ | with_reducible assumption | refine Gr.setCell ?_ (by first | omega | (simp;done) | (simp;omega)) _ | refine Gr.alloc ?_ _ | refine Gr.drew ?_ | refine Gr.drewN ?_ _ | refine Gr.trans ?_ (by with_reducible assumption)))⟩
 have q6:decide (64<(cs.length:Int))=false:=decide_eq_false (by omega)
 rw [decide_eq_true (by omega:cs.length≤64)]
 go_wp2
 go_loopw [3,11] (fun n i wr=>∃ (j:Nat) (t:Int),j≤cs.length∧n=.int .i64 t∧i=.int .i64 j∧0≤t∧t≤2147483647 * j∧Hid ((cs.take j).all okC=true∧totM (cs.take j)=t)∧Gr w wr) (fun _ i _=>cs.length - (RowKit.intOf i).toNat)
 case atStart=>exact⟨0,0,Nat.zero_le _,rfl,rfl,by omega,by omega,Lib.hid ⟨rfl,rfl⟩,Gr.refl _⟩
 case round=>
  obtain⟨j,t,hj,rfl,rfl,ht0,ht1,hno,hg⟩:=hrel
  by_cases c1:j<cs.length
  ·have q1:decide ((j:Int)<(cs.length:Int))=true:=decide_eq_true (by omega)
   rcases ha.out with ha2 | ⟨b,o,rfl,hb,hc⟩
   ·omega
   have hx1:b<wr.heap.size:=Nat.lt_of_lt_of_le hb hg.size
   have hcell:∀ (x:Nat) (u:Value),cs[j].cells[x]?=some u→wr.cell? ⟨b,o+j * 22+x,none⟩=some u:=fun x u hu=>(hg.cells.1 b _ hb).trans (hc j c1 x u hu)
   have hone:=(hch.out _ (List.getElem_mem c1)).one
   have HCj:=HC.out _ (List.getElem_mem c1)
   have hlj:=hl.out _ (List.getElem_mem c1)
   have htk:totM (cs.take (j+1))=t+cs[j].c.len:=by rw [totM_take c1,hno.out.2]
   have hal:(cs.take (j+1)).all okC=okC cs[j]:=by
    rw [← List.take_append_getElem c1,List.all_append,hno.out.1]
    simp
   have hbad:okC cs[j]=false→(cs.all okC)=false:=fun e=>by
    rw [List.all_eq_false]
    exact⟨_,List.getElem_mem c1,by simp [e]⟩
   generalize cs[j]=m at hcell hone HCj hlj htk hal hbad
   obtain⟨l,hml⟩:∃ l,m.cells=l:=⟨_,rfl⟩
   have hlk:l.length=k:=by rw [← hml,← hk22.out];rfl
   have hl0:l[0]?=some (.int .i64 m.c.len):=by rw [← hml];rfl
   unfold CM.val at HCj
   rw [hml] at hcell hone HCj
   obtain⟨ln,hln⟩:∃ ln,m.c.len=ln:=⟨_,rfl⟩
   rw [hln] at hl0 hlj htk
   have la:Sem.run Tryz.prog (loadCellsFrom ⟨b,o+j * k,none⟩ 0 k #[]) wr=.ok l.toArray wr:=by rw [show j * k=j * 22 by rw [← hk22.out]];exact ld_row hlk hcell
   have st:Sem.run Tryz.prog (storeCells ⟨wr.heap.size,0,none⟩ l 0) (wr.alloc (.cells #[.int .i64 0,.int .i64 0,.int .i64 0,.string ⟨#[]⟩,.int .i64 0,.int .i64 0,.int .i64 0,.int .i64 0,.bool false,.int .i64 0,.string ⟨#[]⟩,.int .i64 0,.int .i64 0,.int .i64 0,.int .i64 0,.bool false,.int .i64 0,.int .i64 0,.int .i64 0,.string ⟨#[]⟩,.int .i64 0,.slice none 0 0] 61))=.ok () (wr.alloc (.cells l.toArray 61)):=st_new wr _ _ l (by rw [hlk,← hk22.out];exact infoClip) (by rw [hlk,← hk22.out];rfl) hone
   have hbx:Cel (wr.alloc (.cells l.toArray 61)) wr.heap.size l:=Cel.new wr l.toArray 61
   have lb:Sem.run Tryz.prog (loadCellsFrom ⟨wr.heap.size,0,none⟩ 0 k #[]) (wr.alloc (.cells l.toArray 61))=.ok l.toArray (wr.alloc (.cells l.toArray 61)):=ld_cel hlk hbx
   have HCj:=Lib.hid HCj
   cases hok:okC m with
   | false=>
    rw [hok] at HCj
    have hbad:=Lib.hid (hbad hok)
    clear hal htk hcell hc hlj hml hln hok
    go_wp2_with (go_at_call 59;(with_reducible refine (HCj.out _ ?_).mono ?_);(· exact hg.alloc _);rintro e w2 ⟨rfl,hg2⟩)
    go_ret
    exact⟨by rw [hbad.out];simp,(hg.alloc _).trans hg2⟩
   | true=>
    rw [hok] at HCj hal
    obtain⟨n0,n1⟩:=hlj hok
    have hno2:=Lib.hid (And.intro hal htk)
    clear hal htk hcell hc hlj hml hln hok hbad hno
    go_wp2_with (go_at_call 59;(with_reducible refine (HCj.out _ ?_).mono ?_);(· exact hg.alloc _);rintro e w2 ⟨rfl,hg2⟩;have hb2:=hbx.gr hg2;have y0:=hb2.lt;have y1:=(hb2.2 0 _ hl0).1)
    go_roundw
    case rel=>exact⟨j+1,t+ln,by omega,by go_num,by go_num,by omega,by omega,hno2,(hg.alloc _).trans hg2⟩
    case measure=>simp [RowKit.intOf];omega
  ·have q1:decide ((j:Int)<(cs.length:Int))=false:=decide_eq_false (by omega)
   have hV:Hid (cs.all okC=true∧totM cs=t):=by
    have:=hno.out
    rw [List.take_of_length_le (by omega)] at this
    exact Lib.hid this
   go_wp2
   go_ret
   exact⟨by rw [hV.out.1,hV.out.2];simp,hg⟩
theorem infoInt:(Tryz.prog.info? 3).map (fun i=>(i.zero,i.size,i.bytes))=some (some (.int .i64 0),1,8):=by kernel_rfl
theorem ints_one (xs:List Int):∀ u∈intsV xs,u.oneCell'=true:=by
 intro u hu
 obtain⟨s,_,rfl⟩:=List.mem_map.1 hu
 rfl
theorem cloneI_any (v:Value) (xs:List Int) (w:World) (hS:Rd w v xs.length 1 (intsV xs)) (hn:xs.length * 8≤140737488355328) :
  Calls Tryz.prog 89 #[v] w fun e w'=>∃ v',e=.returned v'∧Gr w w'∧Rd w' v' xs.length 1 (intsV xs)∧(∀ base e',3≠e'→Far base e' w' v')∧∀ k,v'.ownBlock=some k→w.heap.size≤k:=by
 have hR:Rd w v xs.length 1 (intsV xs):=hS
 obtain⟨_,a,cap,rfl,h0⟩:=hS
 have h0:=Lib.hid h0
 obtain⟨is,his,hs0,hs1,hs2⟩:=info_parts infoInt
 cases a with
 | none=>
  rcases h0.out with ⟨hz,h0'⟩ | ⟨b,o,h,_⟩
  ·have hss:xs=[]:=List.eq_nil_of_length_eq_zero hz
   obtain rfl:cap=0:=h0' rfl
   subst hss
   clear h0 h0' hR hn hz
   show Calls Tryz.prog 89 #[.slice none 0 0] w _
   have hnil:∀ w,(binOp .eql 22 (.slice none 0 0) (.slice none 0 0)).run Tryz.prog w=.ok (.bool true) w:=fun w=>Lib.run_eql_slice_nil w _ 3 none _ _ _ _ (by kernel_rfl)
   go_enter Tryz.func89,Tryz.ntmps89
   go_wp2
   go_ret
   exact⟨_,rfl,(by repeat (first | with_reducible exact Gr.refl _ | with_reducible assumption | refine Gr.setCell ?_ (by first | omega | (simp;done) | (simp;omega)) _ | refine Gr.alloc ?_ _ | refine Gr.drew ?_ | refine Gr.drewN ?_ _ | refine Gr.trans ?_ (by with_reducible assumption))),Rd.nil _ 1,fun base e' _ k hk=>by simp [Value.ownBlock] at hk,fun k hk=>by simp [Value.ownBlock] at hk⟩
  ·cases h
 | some ad=>
  have hnil:∀ w,(binOp .eql 22 (.slice (some ad) xs.length cap) (.slice none 0 0)).run Tryz.prog w=.ok (.bool false) w:=fun w=>Lib.run_eql_slice_nil w _ 3 (some ad) _ _ _ _ (by kernel_rfl)
  go_enter Tryz.func89,Tryz.ntmps89
  go_wp2_with (at_builtin;refine wpList_append_rd rfl (.tmp 5) (.tmp 6) 22 rfl w.heap.size 3 is (.int .i64 0) 1 8 (by kernel_rfl) his hs0 hs1 hs2 rfl (by decide) _ _ _ rfl (own_empty w w.heap.size 3 1 (Nat.le_refl _)) _ xs.length (intsV xs) rfl (hR.gr ((Gr.refl w).alloc _)) (ints_one _) ?_ ?_ ?_ ?_;(· unfold maxLen;omega);(· omega);(· simp);intro lv w2 hown2 hgrow2;have hg2:Gr w w2:=((Gr.refl w).alloc _).grown hgrow2 (fun k hk=>by cases hk;exact Nat.le_refl _);simp only [Nat.zero_add,List.nil_append] at hown2;obtain⟨p3,cap3,rfl⟩:=own_shape hown2)
  go_ret
  exact⟨_,rfl,hg2,Rd.own hown2,fun base e' h=>Far.row hown2 h,own_ge hown2⟩
def CM.re (m:CM) (v:Value):CM:=⟨m.c,v⟩
theorem re_cells (m:CM) (v:Value):(m.re v).cells=m.cells.set 21 v:=rfl
set_option maxHeartbeats 4000000 in
theorem copied_core (k:Nat) (hk22:22=k) (m:CM) (w:World) (h:ChR w m) (hn:m.c.ch.length * 8≤140737488355328) :
  Calls Tryz.prog 61 #[m.val] w fun e w'=>∃ v',e=.returned (m.re v').val∧Gr w w'∧ChR w' (m.re v')∧(∀ base,Far base 61 w' v'):=by
 have aE:∀ w,(isAgg 61).run Tryz.prog w=.ok true w:=Tryz.isAgg61
 have zE:∀ w,(Go.sizeOf 61).run Tryz.prog w=.ok k w:=fun w=>by rw [← hk22];exact Tryz.sizeOf61 w
 replace hk22:=Lib.hid hk22
 obtain⟨a,cap,hcv⟩:=h.slice
 have hone:=h.one
 have HC:Hid (∀ w',Gr w w'→Calls Tryz.prog 89 #[.slice a m.c.ch.length cap] w' fun e w''=>∃ v',e=.returned v'∧Gr w' w''∧Rd w'' v' m.c.ch.length 1 (intsV m.c.ch)∧(∀ base e',3≠e'→Far base e' w'' v')∧∀ k,v'.ownBlock=some k→w'.heap.size≤k):=Lib.hid fun w' hg=>by
  have:=cloneI_any m.cv m.c.ch w' (Rd.gr hg h) hn
  rwa [hcv] at this
 obtain⟨l,hml⟩:∃ l,m.cells=l:=⟨_,rfl⟩
 have hlk:l.length=22:=by rw [← hml];rfl
 have hl21:l[21]?=some (.slice a m.c.ch.length cap):=by rw [← hml,← hcv];rfl
 have hre:Hid (∀ v',(m.re v').cells=l.set 21 v'):=Lib.hid fun v'=>by rw [re_cells,hml]
 have hch:Hid (∀ w v',Rd w v' m.c.ch.length 1 (intsV m.c.ch)→ChR w (m.re v')):=Lib.hid fun w v' h=>h
 unfold CM.val
 rw [hml]
 rw [hml] at hone
 generalize m.c.ch.length=n at *
 clear hml hcv h
 have hb0:Blk ((w.alloc (.cells l.toArray 61)).alloc (.cells #[.int .i64 0,.int .i64 0,.int .i64 0,.string ⟨#[]⟩,.int .i64 0,.int .i64 0,.int .i64 0,.int .i64 0,.bool false,.int .i64 0,.string ⟨#[]⟩,.int .i64 0,.int .i64 0,.int .i64 0,.int .i64 0,.bool false,.int .i64 0,.int .i64 0,.int .i64 0,.string ⟨#[]⟩,.int .i64 0,.slice none 0 0] 61)) w.heap.size 61 l:=(Blk.new w l 61).gr ((Gr.refl _).alloc _)
 have hb1:Blk ((w.alloc (.cells l.toArray 61)).alloc (.cells #[.int .i64 0,.int .i64 0,.int .i64 0,.string ⟨#[]⟩,.int .i64 0,.int .i64 0,.int .i64 0,.int .i64 0,.bool false,.int .i64 0,.string ⟨#[]⟩,.int .i64 0,.int .i64 0,.int .i64 0,.int .i64 0,.bool false,.int .i64 0,.int .i64 0,.int .i64 0,.string ⟨#[]⟩,.int .i64 0,.slice none 0 0] 61)) (w.heap.size+1) 61 [.int .i64 0,.int .i64 0,.int .i64 0,.string ⟨#[]⟩,.int .i64 0,.int .i64 0,.int .i64 0,.int .i64 0,.bool false,.int .i64 0,.string ⟨#[]⟩,.int .i64 0,.int .i64 0,.int .i64 0,.int .i64 0,.bool false,.int .i64 0,.int .i64 0,.int .i64 0,.string ⟨#[]⟩,.int .i64 0,.slice none 0 0]:=by
  have:=Blk.new (w.alloc (.cells l.toArray 61)) [.int .i64 0,.int .i64 0,.int .i64 0,.string ⟨#[]⟩,.int .i64 0,.int .i64 0,.int .i64 0,.int .i64 0,.bool false,.int .i64 0,.string ⟨#[]⟩,.int .i64 0,.int .i64 0,.int .i64 0,.int .i64 0,.bool false,.int .i64 0,.int .i64 0,.int .i64 0,.string ⟨#[]⟩,.int .i64 0,.slice none 0 0] 61
  simpa using this
 have hgA:Gr w ((w.alloc (.cells l.toArray 61)).alloc (.cells #[.int .i64 0,.int .i64 0,.int .i64 0,.string ⟨#[]⟩,.int .i64 0,.int .i64 0,.int .i64 0,.int .i64 0,.bool false,.int .i64 0,.string ⟨#[]⟩,.int .i64 0,.int .i64 0,.int .i64 0,.int .i64 0,.bool false,.int .i64 0,.int .i64 0,.int .i64 0,.string ⟨#[]⟩,.int .i64 0,.slice none 0 0] 61)):=((Gr.refl w).alloc _).alloc _
 have x0:=(hb0.cel.2 21 _ hl21).1
 go_enter Tryz.func61,Tryz.ntmps61
 go_upto_region 2 with (go_at_call 89;(with_reducible refine (HC.out _ hgA).mono ?_);rintro e w2 ⟨v',rfl,hg2,hR2,hF2,hge2⟩;obtain⟨a2,cap2,rfl⟩:∃ a2 cap2,v'=.slice a2 n cap2:=⟨_,_,hR2.2.choose_spec.choose_spec.1⟩;have hb02:=hb0.gr hg2;have hb12:=hb1.gr hg2;have y0:=hb02.lt;have y1:=(hb02.cel.2 21 _ hl21).1;have y2:=(hb02.cel.2 21 _ hl21).2)
 have hnb:(Value.slice a2 n cap2).ownBlock≠some w.heap.size:=fun e=>by have:=hge2 _ e;simp at this;omega
 have hnc:(Value.slice a2 n cap2).ownBlock≠some (w.heap.size+1):=fun e=>by have:=hge2 _ e;simp at this;omega
 have hbA:=hb02.set 21 (.slice a2 n cap2)
 have hbB:=hb12.other (p:=⟨w.heap.size,21,none⟩) (by simp) (.slice a2 n cap2)
 have hgB:Gr w (w2.setCell ⟨w.heap.size,21,none⟩ (.slice a2 n cap2)):=(hgA.trans hg2).setCell (Nat.le_refl _) _
 have hRB:=hR2.setCell ⟨w.heap.size,21,none⟩ (.slice a2 n cap2) hnb
 have hFB:=fun base=>(hF2 base 61 (by decide)).keep (grown_setCell w2 ⟨w.heap.size,21,none⟩ (.slice a2 n cap2)) hnb
 have hl':∀ v∈l.set 21 (.slice a2 n cap2),v.oneCell'=true:=fun v hv=>by
  rcases List.mem_or_eq_of_mem_set hv with h | h
  ·exact hone v h
  ·rw [h];rfl
 have hlk':(l.set 21 (.slice a2 n cap2)).length=k:=by rw [List.length_set,hlk];exact hk22.out
 have hre':=hre.out (.slice a2 n cap2)
 generalize l.set 21 (.slice a2 n cap2)=l' at hbA hl' hlk' hre'
 generalize w2.setCell ⟨w.heap.size,21,none⟩ (.slice a2 n cap2)=W3 at *
 have la:=ld_blk (P:=Tryz.prog) hlk' hbA
 have st:=st_blk (P:=Tryz.prog) hbB (by rw [hlk',← hk22.out];rfl) hl'
 have hbC:=hbB.setRow l'
 have lb:=ld_blk (P:=Tryz.prog) hlk' hbC
 have hgC:=hgB.setRow (g:=w.heap.size+1) (by omega) l'.toArray
 have hgr:=grown_setRow W3 (w.heap.size+1) l'.toArray
 have hRC:=hRB.grown hgr (.inr (.inl hnc))
 have hFC:=fun base=>(hFB base).keep hgr hnc
 replace hre':=Lib.hid hre'
 clear hbA hbB hbC hRB hFB hgB hgr hb02 hb12 y0 y1 y2 hR2 hF2
 go_wp2
 simp [bodyPost,results,Tryz.results61,go_sem,aE,zE,lb]
 exact⟨_,by rw [hre'.out],hgC,hch.out _ _ hRC,hFC⟩
def PkI (cs:List CM) (i:Nat) (ts:List CM) (R:List Cl):Prop:=
 (i=0∧ts=[]∧pkQ (cs.map CM.c)=R)∨(∃ (ini:List CM) (m p:CM),0<i∧cs[i - 1]?=some p∧ts=ini ++ [m]∧ini.map CM.c ++ pkP m.c p.c ((cs.drop i).map CM.c)=R)
theorem PkI.end {cs:List CM} {ts:List CM} {R:List Cl} (h:PkI cs cs.length ts R):ts.map CM.c=R:=by
 rcases h with ⟨h1,rfl,h2⟩ | ⟨ini,m,p,h1,h2,rfl,h3⟩
 ·rw [List.eq_nil_of_length_eq_zero h1] at h2
  exact h2
 ·rw [List.drop_length] at h3
  rw [← h3]
  simp [pkP]
theorem PkI.first {cs:List CM} {ts:List CM} {R:List Cl} (hl:0<cs.length) (h:PkI cs 0 ts R) (m:CM) (hm:m.c=cs[0].c):PkI cs 1 (ts ++ [m]) R:=by
 rcases h with ⟨h1,rfl,h2⟩ | ⟨ini,m,p,h1,h2,rfl,h3⟩
 ·refine .inr ⟨[],m,cs[0],by omega,by simp [hl],rfl,?_⟩
  rw [← h2,hm]
  cases cs with
  | nil=>simp at hl
  | cons a r=>rfl
 ·omega
theorem PkI.new {cs:List CM} {i:Nat} {ts:List CM} {R:List Cl} (hi:i<cs.length) (h0:0<i) (h:PkI cs i ts R) (hk:cont cs[i - 1].c cs[i].c=false) (m:CM) (hm:m.c=cs[i].c):PkI cs (i+1) (ts ++ [m]) R:=by
 rcases h with ⟨h1,rfl,h2⟩ | ⟨ini,m0,p,h1,h2,rfl,h3⟩
 ·omega
 ·have hp:p=cs[i - 1]:=by
   rw [List.getElem?_eq_getElem (by omega)] at h2
   injection h2 with h2
   exact h2.symm
  refine .inr ⟨ini ++ [m0],m,cs[i],by omega,by simp [hi],rfl,?_⟩
  rw [List.drop_eq_getElem_cons hi,List.map_cons,pkP,hp,hk] at h3
  rw [← h3,hm]
  simp
theorem PkI.join {cs:List CM} {i:Nat} {ini:List CM} {m:CM} {R:List Cl} (hi:i<cs.length) (h0:0<i) (h:PkI cs i (ini ++ [m]) R) (hk:cont cs[i - 1].c cs[i].c=true):PkI cs (i+1) (ini ++ [⟨longer m.c cs[i].c.len,m.cv⟩]) R:=by
 rcases h with ⟨h1,h2,_⟩ | ⟨ini',m0,p,h1,h2,h4,h3⟩
 ·omega
 ·obtain⟨e1,e2⟩:=List.append_inj' h4 rfl
  injection e2 with e2
  subst e1 e2
  have hp:p=cs[i - 1]:=by
   rw [List.getElem?_eq_getElem (by omega)] at h2
   injection h2 with h2
   exact h2.symm
  refine .inr ⟨ini,_,cs[i],by omega,by simp [hi],rfl,?_⟩
  rw [List.drop_eq_getElem_cons hi,List.map_cons,pkP,hp,hk] at h3
  exact h3
theorem PkI.some {cs:List CM} {i:Nat} {ts:List CM} {R:List Cl} (h0:0<i) (h:PkI cs i ts R):∃ ini m,ts=ini ++ [m]:=by
 rcases h with ⟨h1,_⟩ | ⟨ini,m,p,_,_,h,_⟩
 ·omega
 ·exact⟨ini,m,h⟩
theorem infoClip3:(Tryz.prog.info? 61).map (fun i=>(i.zero,i.size,i.bytes))=some (some (.agg #[.int .i64 0,.int .i64 0,.int .i64 0,.string ⟨#[]⟩,.int .i64 0,.int .i64 0,.int .i64 0,.int .i64 0,.bool false,.int .i64 0,.string ⟨#[]⟩,.int .i64 0,.int .i64 0,.int .i64 0,.int .i64 0,.bool false,.int .i64 0,.int .i64 0,.int .i64 0,.string ⟨#[]⟩,.int .i64 0,.slice none 0 0]),22,216):=by kernel_rfl
set_option maxRecDepth 20000 in
set_option maxHeartbeats 8000000 in
theorem pack_core (k:Nat) (hk22:22=k) (cs:List CM) (v:Value) (w:World) (h:TrR w v cs) (hn:cs.length≤1000000) (hl:∀ c∈cs,0≤c.c.len∧c.c.len≤2147483647)
  (HK:Hid (∀ (i:Nat) (h0:0<i) (h:i<cs.length),∀ w',Gr w w'→Calls Tryz.prog 60 #[cs[i].val,cs[i - 1].val] w' fun e w''=>e=.returned (.bool (cont cs[i - 1].c cs[i].c))∧Gr w' w''))
  (HC:Hid (∀ c∈cs,∀ w',Gr w w'→Calls Tryz.prog 61 #[c.val] w' fun e w''=>∃ v',e=.returned (c.re v').val∧Gr w' w''∧ChR w'' (c.re v')∧∀ base,Far base 61 w'' v')) :
  Calls Tryz.prog 36 #[v] w fun e w'=>∃ v' ts,e=.returned v'∧Gr w w'∧TrO w.heap.size w' v' ts∧ts.map CM.c=pkQ (cs.map CM.c)∧ts.length≤cs.length:=by
 have aE:∀ w,(isAgg 61).run Tryz.prog w=.ok true w:=Tryz.isAgg61
 have zE:∀ w,(Go.sizeOf 61).run Tryz.prog w=.ok k w:=fun w=>by rw [← hk22];exact Tryz.sizeOf61 w
 replace hk22:=Lib.hid hk22
 obtain⟨a,cap,rfl,ha⟩:=h.shape
 have hch:=h.ch
 clear h
 replace ha:=Lib.hid ha
 replace hch:=Lib.hid hch
 replace hl:=Lib.hid hl
 obtain⟨R,hR⟩:∃ R,pkQ (cs.map CM.c)=R:=⟨_,rfl⟩
 rw [hR]
 have hI:Hid (PkI cs 0 [] R):=Lib.hid (.inl ⟨rfl,rfl,hR⟩)
 clear hR
 go_enter Tryz.func36,Tryz.ntmps36
 go_wp2
 go_loopw [3,8] (fun n i wr=>∃ (j:Nat) (ts:List CM),j≤cs.length∧ts.length≤j∧i=.int .i64 j∧Hid (PkI cs j ts R)∧Hid (TrO w.heap.size wr n ts)∧Hid (∀ m∈ts,0≤m.c.len∧m.c.len≤2147483647 * j)∧Gr w wr) (fun _ i _=>cs.length - (RowKit.intOf i).toNat)
 case atStart=>exact⟨0,[],Nat.zero_le _,Nat.le_refl _,rfl,hI,Lib.hid (TrO.nil _ _),Lib.hid (fun m hm=>by cases hm),Gr.refl _⟩
 case round=>
  obtain⟨j,ts,hj,htj,rfl,hno,hO,hL,hg⟩:=hrel
  clear hI
  obtain⟨p9,c9,rfl⟩:=own_shape hO.out.own
  by_cases c1:j<cs.length
  ·have q1:decide ((j:Int)<(cs.length:Int))=true:=decide_eq_true (by omega)
   rcases ha.out with ha2 | ⟨b,o,rfl,hb,hc⟩
   ·omega
   have hx1:b<wr.heap.size:=Nat.lt_of_lt_of_le hb hg.size
   have hcell:∀ (x:Nat) (u:Value),cs[j].cells[x]?=some u→wr.cell? ⟨b,o+j * 22+x,none⟩=some u:=fun x u hu=>(hg.cells.1 b _ hb).trans (hc j c1 x u hu)
   have hone:=(hch.out _ (List.getElem_mem c1)).one
   obtain⟨l,hml⟩:∃ l,cs[j].cells=l:=⟨_,rfl⟩
   have hlk:l.length=k:=by rw [← hml,← hk22.out];rfl
   have hl0:l[0]?=some (.int .i64 cs[j].c.len):=by rw [← hml];rfl
   have hlj:=hl.out _ (List.getElem_mem c1)
   rw [hml] at hcell hone
   have la:Sem.run Tryz.prog (loadCellsFrom ⟨b,o+j * k,none⟩ 0 k #[]) wr=.ok l.toArray wr:=by rw [show j * k=j * 22 by rw [← hk22.out]];exact ld_row hlk hcell
   have st:Sem.run Tryz.prog (storeCells ⟨wr.heap.size,0,none⟩ l 0) (wr.alloc (.cells #[.int .i64 0,.int .i64 0,.int .i64 0,.string ⟨#[]⟩,.int .i64 0,.int .i64 0,.int .i64 0,.int .i64 0,.bool false,.int .i64 0,.string ⟨#[]⟩,.int .i64 0,.int .i64 0,.int .i64 0,.int .i64 0,.bool false,.int .i64 0,.int .i64 0,.int .i64 0,.string ⟨#[]⟩,.int .i64 0,.slice none 0 0] 61))=.ok () (wr.alloc (.cells l.toArray 61)):=st_new wr _ _ l (by rw [hlk,← hk22.out];exact infoClip) (by rw [hlk,← hk22.out];rfl) hone
   have hbx:Cel (wr.alloc (.cells l.toArray 61)) wr.heap.size l:=Cel.new wr l.toArray 61
   have hOA:=Lib.hid (hO.out.gr ((Gr.refl wr).alloc (.cells l.toArray 61)))
   have hgA:=hg.alloc (.cells l.toArray 61)
   go_upto_region 5 with fail
   obtain⟨X,hX⟩:∃ X,wr.heap.size=X:=⟨_,rfl⟩
   have hXw:w.heap.size≤X:=by have:=hg.size;omega
   rw [hX] at hbx ⊢
   clear la st hcell hO hX
   generalize wr.alloc (.cells l.toArray 61)=W at *
   replace hml:=Lib.hid hml
   have hlb:Hid (∀ wx,Gr W wx→Cel wx X l∧Sem.run Tryz.prog (loadCellsFrom ⟨X,0,none⟩ 0 k #[]) wx=.ok l.toArray wx):=Lib.hid fun wx hgx=>⟨hbx.gr hgx,ld_cel hlk (hbx.gr hgx)⟩
   clear hbx
   go_cut [23] (fun vb wx=>∃ B:Bool,vb=.bool B∧Gr W wx∧((B=true∧0<j∧cont (cs[j - 1]'(by omega)).c cs[j].c=true)∨(B=false∧(j=0∨cont (cs[j - 1]'(by omega)).c cs[j].c=false))))
   case first=>as_aux_lemma=>
    by_cases c0:0<j
    ·have q0:decide (0<(j:Int))=true:=decide_eq_true (by omega)
     have hp1:j - 1<cs.length:=by omega
     have hcp:∀ (x:Nat) (u:Value),cs[j - 1].cells[x]?=some u→W.cell? ⟨b,o+(j - 1) * 22+x,none⟩=some u:=fun x u hu=>(hgA.cells.1 b _ hb).trans (hc (j - 1) hp1 x u hu)
     have HKj:=fun w' hg'=>HK.out j c0 c1 w' hg'
     obtain⟨Kb,hKb⟩:∃ Kb,cont (cs[j - 1]'hp1).c cs[j].c=Kb:=⟨_,rfl⟩
     rw [hKb] at HKj
     unfold CM.val at HKj
     rw [hml.out] at HKj
     obtain⟨lp,hlp⟩:∃ lp,cs[j - 1].cells=lp:=⟨_,rfl⟩
     have hlpk:lp.length=k:=by rw [← hlp,← hk22.out];rfl
     rw [hlp] at HKj hcp
     replace HKj:=Lib.hid HKj
     have hj1:((j:Int) - 1)=((j - 1:Nat):Int):=by omega
     have hxW:b<W.heap.size:=Nat.lt_of_lt_of_le hb hgA.size
     have lq:∀ x:GW W,Sem.run Tryz.prog (loadCellsFrom ⟨b,o+(j - 1) * k,none⟩ 0 k #[]) x.w=.ok lp.toArray x.w:=fun x=>by
      rw [show (j - 1) * k=(j - 1) * 22 by rw [← hk22.out]]
      exact ld_row hlpk fun y u hu=>(x.h.cells.1 b _ hxW).trans (hcp y u hu)
     have lr:∀ x:GW W,Sem.run Tryz.prog (loadCellsFrom ⟨X,0,none⟩ 0 k #[]) x.w=.ok l.toArray x.w:=fun x=>(hlb.out _ x.h).2
     clear hc hlp hcp
     refine wp_region_gr (by kernel_rfl) (by kernel_rfl) (fun hq1 hq2=>?_)
     repeat (first | go_big_quiet_skip | (go_big_quiet_want;go_big_quiet_op;first | go_big_quiet_on | (apply Exists.intro;refine⟨fun _=>?_,?_⟩;(· ((go_at_call 60;exact gr_call (HKj.out _ (hgA.trans (GW.h _))))));go_big_quiet_on)))
     refine wpQuiet_nil ?_
     clear hq1 hq2
     rintro w1 ⟨⟨_,hg1⟩,rfl⟩
     obtain⟨hc1,hf1⟩:=hg1.cells
     have hz1:=hg1.size
     (try simp at hz1);(try have hl1_0_0:w.heap.size<w1.heap.size:=by omega);(try have hm1_0_0:w.heap.size≤w1.heap.size:=by omega);(try have hl1_0_1:w.heap.size+1<w1.heap.size:=by omega);(try have hl1_0_2:w.heap.size+2<w1.heap.size:=by omega)
     go_wp2
     go_meet
     refine⟨Kb,rfl,(by repeat (first | refine Gr.setCell ?_ (by first | omega | (simp;done) | (simp;omega)) _ | refine Gr.alloc ?_ _ | refine Gr.drew ?_ | refine Gr.drewN ?_ _ | with_reducible assumption | with_reducible exact Gr.refl _ | refine Gr.trans ?_ (by with_reducible assumption))),?_⟩
     rw [hKb]
     cases Kb
     ·exact .inr ⟨rfl,.inr rfl⟩
     ·exact .inl ⟨rfl,c0,rfl⟩
    ·have q0:decide (0<(j:Int))=false:=decide_eq_false (by omega)
     refine wp_region_gr (by kernel_rfl) (by kernel_rfl) (fun hq1 hq2=>?_)
     repeat (first | go_big_quiet_skip | (go_big_quiet_want;go_big_quiet_op;first | go_big_quiet_on | (apply Exists.intro;refine⟨fun _=>?_,?_⟩;(· (fail));go_big_quiet_on)))
     refine wpQuiet_nil ?_
     clear hq1 hq2
     rintro w1 ⟨⟨_,hg1⟩,rfl⟩
     obtain⟨hc1,hf1⟩:=hg1.cells
     have hz1:=hg1.size
     (try simp at hz1);(try have hl1_0_0:w.heap.size<w1.heap.size:=by omega);(try have hm1_0_0:w.heap.size≤w1.heap.size:=by omega);(try have hl1_0_1:w.heap.size+1<w1.heap.size:=by omega);(try have hl1_0_2:w.heap.size+2<w1.heap.size:=by omega)
     go_wp2
     go_meet
     exact⟨false,rfl,(by repeat (first | refine Gr.setCell ?_ (by first | omega | (simp;done) | (simp;omega)) _ | refine Gr.alloc ?_ _ | refine Gr.drew ?_ | refine Gr.drewN ?_ _ | with_reducible assumption | with_reducible exact Gr.refl _ | refine Gr.trans ?_ (by with_reducible assumption))),.inr ⟨rfl,.inl (by omega)⟩⟩
   case rest=>as_aux_lemma=>
    obtain⟨B,rfl,hg5,hB⟩:=hcut
    have hOx:=Lib.hid (hOA.out.gr hg5)
    have hgx:=hgA.trans hg5
    obtain⟨hbx,lb⟩:=hlb.out _ hg5
    replace hB:=Lib.hid hB
    cases B with
    | true=>
     obtain⟨c0,hcont⟩:0<j∧cont (cs[j - 1]'(by omega)).c cs[j].c=true:=by
      rcases hB.out with ⟨_,h⟩ | ⟨h,_⟩
      ·exact h
      ·cases h
     obtain⟨ini,m,hts⟩:=hno.out.some c0
     subst hts
     have hno2:=Lib.hid (hno.out.join c1 c0 hcont)
     have hlen:(ini ++ [m]).length=ini.length+1:=by simp
     obtain⟨g,rfl⟩:∃ g,p9=some ⟨g,0,none⟩:=by
      rcases hOx.out.own.2 with ⟨e,e2⟩ | ⟨g,cap',cur,e,_⟩
      ·injection e with e1 e2 e3
       omega
      ·injection e with e1
       exact⟨g,e1⟩
     have hxg:=(hOx.out.own.lt g rfl).2
     have hgw:=(hOx.out.own.lt g rfl).1
     have hm0:=hL.out m (by simp)
     have x0:wc.cell? ⟨g,ini.length * k,none⟩=some (.int .i64 m.c.len):=by
      rw [← hk22.out,show ini.length * 22=ini.length * 22+0 by omega,hOx.out.own.cellAt _ (by rw [hlen];omega),cflat_at _ _ (by rw [hlen];omega) 0 (by omega)]
      simp [CM.cells]
     have f0:wc.frozen? ⟨g,ini.length * k,none⟩=false:=hOx.out.own.frozenAt _
     have y0:=(hbx.2 0 _ hl0).1
     have yx:=hbx.lt
     have hnl:((ini.length:Int)+1 - 1)=(ini.length:Int):=by omega
     obtain⟨lj,hlj2⟩:∃ lj,cs[j].c.len=lj:=⟨_,rfl⟩
     rw [hlj2] at y0 hlj hno2
     obtain⟨lm,hlm⟩:∃ lm,m.c.len=lm:=⟨_,rfl⟩
     rw [hlm] at x0 hm0
     simp only [hlen]
     have hlm2:=Lib.hid hlm
     have hO3:Hid (∀ wz,Gr wc wz→TrO w.heap.size (wz.setCell ⟨g,ini.length * k,none⟩ (.int .i64 (lm+lj))) (.slice (some ⟨g,0,none⟩) (ini.length+1) c9) (ini ++ [⟨longer m.c lj,m.cv⟩])):=Lib.hid fun wz hgz=>by
      have:=(hOx.out.gr hgz).set ini.length (by rw [hlen];omega) 0 (by omega) (.int .i64 (lm+lj)) ⟨longer m.c lj,m.cv⟩ (by rw [← hlm2.out];simp [CM.cells,longer]) (by simp) (by simp [longer])
      rw [List.length_set,hlen,show (ini ++ [m]).set ini.length ⟨longer m.c lj,m.cv⟩=ini ++ [⟨longer m.c lj,m.cv⟩] by simp,show ini.length * 22+0=ini.length * k by rw [← hk22.out];omega] at this
      exact this
     have hL2:Hid (∀ x∈ini ++ [(⟨longer m.c lj,m.cv⟩:CM)],0≤x.c.len∧x.c.len≤2147483647 * ((j+1:Nat):Int)):=Lib.hid fun x hx=>by
      rcases List.mem_append.1 hx with h | h
      ·have:=hL.out x (List.mem_append_left _ h)
       omega
      ·rw [List.mem_singleton.1 h]
       show 0≤m.c.len+lj∧m.c.len+lj≤_
       rw [hlm2.out]
       omega
     clear hlm hlj2 hno hL hOA hB hcont
     go_upto_region 6 with fail
     refine wp_region_gr_tail 12 (by kernel_rfl) (by kernel_rfl) (fun hq1 hq2=>?_)
     simp only [List.take_succ_cons,List.take_zero,List.drop_succ_cons,List.drop_zero]
     repeat (first | go_big_quiet_skip | (go_big_quiet_want;go_big_quiet_op;first | go_big_quiet_on | (apply Exists.intro;refine⟨fun _=>?_,?_⟩;(· (fail));go_big_quiet_on)))
     refine wpQuiet_nil ?_
     clear hq1 hq2
     rintro w1 ⟨⟨_,hg1⟩,rfl⟩
     obtain⟨hc1,hf1⟩:=hg1.cells
     have hz1:=hg1.size
     (try simp at hz1);(try have hl1_0_0:w.heap.size<w1.heap.size:=by omega);(try have hm1_0_0:w.heap.size≤w1.heap.size:=by omega);(try have hl1_0_1:w.heap.size+1<w1.heap.size:=by omega);(try have hl1_0_2:w.heap.size+2<w1.heap.size:=by omega)
     go_wp2
     exact⟨⟨j+1,_,by omega,by simp;omega,by go_num,hno2,hO3.out _ hg1,hL2,((hgx.trans hg1).setCell hgw _)⟩,by simp [RowKit.intOf];omega⟩
    | false=>
     have hcont:j=0∨cont (cs[j - 1]'(by omega)).c cs[j].c=false:=by
      rcases hB.out with ⟨h,_⟩ | ⟨_,h⟩
      ·cases h
      ·exact h
     have HCj:Hid (∀ w',Gr w w'→Calls Tryz.prog 61 #[.agg l.toArray] w' fun e w''=>∃ v',e=.returned (.agg (l.set 21 v').toArray)∧Gr w' w''∧ChR w'' (cs[j].re v')∧∀ base,Far base 61 w'' v'):=Lib.hid fun w' hg'=>by
      have:=HC.out cs[j] (List.getElem_mem c1) w' hg'
      unfold CM.val at this
      rw [hml.out] at this
      refine this.mono fun e w'' ⟨v',h1,h2⟩=>⟨v',?_,h2⟩
      rw [h1,re_cells,hml.out]
     have hl22:l.length=22:=by rw [hlk,← hk22.out]
     have hOw:=hOx.out
     have hgeO:=own_ge hOw.own
     obtain⟨ic,hic,hic0,hic1,hic2⟩:=info_parts infoClip3
     have hk0:¬ k=0:=by rw [← hk22.out];omega
     have hk24:¬ 16777216<k:=by rw [← hk22.out];omega
     clear HC HK hB
     go_wp2_with (first
      | (go_at_call 61;(with_reducible refine (HCj.out _ hgx).mono ?_);rintro e w6 ⟨v6,rfl,hg6,hch6,hfar6⟩;have hone6:=hch6.one;rw [re_cells,hml.out] at hone6;have hl6:(l.set 21 v6).length=22:=(by rw [List.length_set,hl22]);have hO7:=hOw.gr hg6;have hsz7:=(hgx.trans hg6).size)
      | (refine wpList_bs1 rfl 28 61 (.tmp 38) rfl 22 (by kernel_rfl) (by kernel_rfl) (by omega) (by omega) (l.set 21 v6) hl6 rfl ?_)
      | (at_builtin;go_loud (refine wpList_append_rd rfl (.tmp 36) (.tmp 39) 28 rfl w.heap.size 61 ic (.agg #[.int .i64 0,.int .i64 0,.int .i64 0,.string ⟨#[]⟩,.int .i64 0,.int .i64 0,.int .i64 0,.int .i64 0,.bool false,.int .i64 0,.string ⟨#[]⟩,.int .i64 0,.int .i64 0,.int .i64 0,.int .i64 0,.bool false,.int .i64 0,.int .i64 0,.int .i64 0,.string ⟨#[]⟩,.int .i64 0,.slice none 0 0]) 22 216 (by kernel_rfl) hic hic0 hic1 hic2 rfl (by decide) (.slice p9 ts.length c9) ts.length (cflat ts) rfl (hO7.own.alloc _) _ 1 (l.set 21 v6) rfl (Rd.new w6 (l.set 21 v6).toArray 61 1 22 1 (by simpa using hl6)) hone6 ?_ ?_ ?_ ?_);(· unfold maxLen;omega);(· omega);(· simp <;> omega);intro v9 w9 hown9 hgrow9;obtain⟨p10,c10,rfl⟩:=own_shape hown9))
     have hge9:=own_ge hO7.own
     have hgr9:Gr w w9:=((hgx.trans hg6).alloc _).grown hgrow9 hge9
     have hO9:TrO w.heap.size w9 (.slice p10 (ts.length+1) c10) (ts ++ [cs[j].re v6]):=(hO7.gr ((Gr.refl w6).alloc _)).app (cs[j].re v6) (hch6.gr ((Gr.refl w6).alloc _)) ((hfar6 0).gr ((Gr.refl w6).alloc _)) (by rw [re_cells,hml.out];exact hown9) hgrow9
     have hI9:PkI cs (j+1) (ts ++ [cs[j].re v6]) R:=by
      rcases Nat.eq_zero_or_pos j with h0 | h0
      ·subst h0
       exact hno.out.first c1 _ rfl
      ·exact hno.out.new c1 h0 (by rcases hcont with h | h;omega;exact h) _ rfl
     have hL9:∀ m∈ts ++ [cs[j].re v6],0≤m.c.len∧m.c.len≤2147483647 * ((j+1:Nat):Int):=fun m hm=>by
      rcases List.mem_append.1 hm with h | h
      ·have:=hL.out m h
       omega
      ·rw [List.mem_singleton.1 h]
       have:0≤cs[j].c.len∧cs[j].c.len≤2147483647:=hlj
       show 0≤cs[j].c.len∧cs[j].c.len≤_
       omega
     exact⟨⟨j+1,_,by omega,by rw [List.length_append];simp;omega,by go_num,Lib.hid hI9,Lib.hid hO9,Lib.hid hL9,hgr9⟩,by simp [RowKit.intOf];omega⟩
  ·have q1:decide ((j:Int)<(cs.length:Int))=false:=decide_eq_false (by omega)
   have hje:j=cs.length:=by omega
   subst hje
   go_wp2
   go_ret
   exact⟨_,ts,rfl,hg,hO.out,hno.out.end,htj⟩
set_option maxHeartbeats 1000000 in
theorem pack2_core (v:Value) (w:World) (B:Bool) (P:List CM→Prop)
  (HV:Hid (∀ w',Gr w w'→Calls Tryz.prog 34 #[v] w' fun e w''=>e=.returned (.bool B)∧Gr w' w''))
  (HP:Hid (B=true→∀ w',Gr w w'→Calls Tryz.prog 36 #[v] w' fun e w''=>∃ v' ts,e=.returned v'∧Gr w' w''∧TrO w'.heap.size w'' v' ts∧P ts)) :
  Calls Tryz.prog 38 #[v] w fun e w'=>∃ v' ts,e=.returned v'∧Gr w w'∧TrO w.heap.size w' v' ts∧((B=false∧ts=[])∨(B=true∧P ts)):=by
 cases B with
 | false=>
  go_enter Tryz.func38,Tryz.ntmps38
  go_wp2_with (go_at_call 34;(with_reducible refine (HV.out _ (Gr.refl _)).mono ?_);rintro e w2 ⟨rfl,hg2⟩)
  go_ret
  exact⟨_,[],rfl,hg2,TrO.nil _ _,.inl (by simp)⟩
 | true=>
  have HP2:=Lib.hid (HP.out rfl)
  go_enter Tryz.func38,Tryz.ntmps38
  go_wp2_with (first
   | (go_at_call 34;(with_reducible refine (HV.out _ (Gr.refl _)).mono ?_);rintro e w2 ⟨rfl,hg2⟩)
   | (go_at_call 36;(with_reducible refine (HP2.out _ hg2).mono ?_);rintro e w3 ⟨v3,ts,rfl,hg3,hO3,hP3⟩))
  go_ret
  exact⟨_,ts,rfl,hg2.trans hg3,hO3.less hg2.size,.inr (by simpa using hP3)⟩
def cutG (l:List Cl):List Cl:=match l.getLast? with
 | some c=>if c.kind=0 then l.dropLast else l
 | none=>l
theorem TrR.take {w:World} {a:Option Addr} {n cap:Nat} {ts:List CM} {m:CM} (h:TrR w (.slice a n cap) (ts ++ [m])) (hn:n=ts.length+1) (c2:Nat):TrR w (.slice a ts.length c2) ts:=by
 obtain⟨⟨h1,a',cap',h2,h3⟩,h4⟩:=h
 injection h2 with h5 h6 h7
 subst h5
 refine⟨⟨cflat_length ts,a,c2,rfl,?_⟩,fun c hc=>h4 c (List.mem_append_left _ hc)⟩
 rcases h3 with ⟨h8,_⟩ | ⟨b,o,rfl,hb,hc⟩
 ·rw [List.length_append,List.length_singleton] at h8
  omega
 ·refine .inr ⟨b,o,rfl,hb,fun j u hu=>hc j u ?_⟩
  rw [cflat_append,List.getElem?_append_left (List.getElem?_eq_some_iff.1 hu).1]
  exact hu
set_option maxHeartbeats 2000000 in
theorem normal_core (v:Value) (w:World) (P:List CM→Prop)
  (HP:Hid (Calls Tryz.prog 38 #[v] w fun e w'=>∃ v' ts,e=.returned v'∧Gr w w'∧TrO w.heap.size w' v' ts∧P ts)) (hl:Hid (∀ ts,P ts→ts.length≤1000000)) :
  Calls Tryz.prog 17 #[v] w fun e w'=>∃ v' ts ts',e=.returned v'∧Gr w w'∧TrR w' v' ts'∧P ts∧ts'.map CM.c=cutG (ts.map CM.c)∧(∀ c∈ts',c∈ts):=by
 go_enter Tryz.func17,Tryz.ntmps17
 go_upto_region 2 with (go_at_call 38;(with_reducible refine HP.out.mono ?_);rintro e w1 ⟨v1,ts,rfl,hg1,hO,hP⟩;obtain⟨p,c,rfl⟩:=own_shape hO.own)
 have hlen:=hl.out ts hP
 rcases List.eq_nil_or_concat ts with rfl | ⟨ini,m,rfl⟩
 ·go_wp2
  go_ret
  exact⟨_,[],[],rfl,hg1,hO.read,hP,rfl,fun c hc=>hc⟩
 ·rw [List.concat_eq_append] at *
  have hle:(ini ++ [m]).length=ini.length+1:=by simp
  obtain⟨g,rfl⟩:∃ g,p=some ⟨g,0,none⟩:=by
   rcases hO.own.2 with ⟨e,e2⟩ | ⟨g,cap',cur,e,_⟩
   ·injection e with e1 e2 e3
    omega
   ·injection e with e1
    exact⟨g,e1⟩
  have hxg:=(hO.own.lt g rfl).2
  have hcap:ini.length+1≤c:=by
   rcases hO.own.2 with ⟨e,_⟩ | ⟨g',cap',cur,e,_,_,h3,_⟩
   ·cases e
   ·injection e with e1 e2 e3
    omega
  have x1:w1.cell? ⟨g,ini.length * 22+1,none⟩=some (.int .i64 m.c.kind):=by
   rw [hO.own.cellAt _ (by rw [hle];omega),cflat_at _ _ (by rw [hle];omega) 1 (by omega)]
   simp [CM.cells]
  have hcut:cutG ((ini ++ [m]).map CM.c)=if m.c.kind=0 then ini.map CM.c else (ini ++ [m]).map CM.c:=by
   unfold cutG
   simp
  have hnl:((ini.length:Int)+1 - 1)=(ini.length:Int):=by omega
  rw [hle] at hlen
  have hrd:=hO.read
  simp only [hle]
  have hP:=Lib.hid hP
  have hO:=Lib.hid hO
  have hrd:=Lib.hid hrd
  by_cases hk:m.c.kind=0
  ·have q1:(m.c.kind == 0)=true:=by simp [hk]
   rw [if_pos hk] at hcut
   replace hcut:=Lib.hid hcut
   have hk:=Lib.hid hk
   go_wp2
   go_ret
   exact⟨_,ini ++ [m],ini,rfl,hg1,TrR.take hrd.out (by simp) c,hP.out,hcut.out.symm,fun x hx=>List.mem_append_left _ hx⟩
  ·have q1:(m.c.kind == 0)=false:=by simp [hk]
   rw [if_neg hk] at hcut
   replace hcut:=Lib.hid hcut
   have hk:=Lib.hid hk
   go_wp2
   go_ret
   exact⟨_,ini ++ [m],ini ++ [m],rfl,hg1,by have:=hrd.out;rwa [hle] at this,hP.out,hcut.out.symm,fun x hx=>hx⟩
end Go.Proofs.YtnginfangeikpaaGreatDoor
