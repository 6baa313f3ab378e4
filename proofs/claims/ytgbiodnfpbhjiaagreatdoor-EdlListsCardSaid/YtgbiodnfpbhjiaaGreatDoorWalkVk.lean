/-
  Contracts of ValidTrack and Normal of the reference, and of plain.
  Conditions: the track lies in memory; its numbers are 64-bit numbers.
-/
import Derived.Test.YtgbiodnfpbhjiaaGreatDoorWalkVt
import Derived.Test.YtgbiodnfpbhjiaaGreatDoorWalkTm
import Derived.Test.YtgbiodnfpbhjiaaGreatDoorWalkUd
namespace Go.Proofs.YtgbiodnfpbhjiaaGreatDoor
open Go.RowKit Go.Lib
set_option linter.unusedSimpArgs false
set_option linter.unusedVariables false
set_option maxRecDepth 20000 in
set_option maxHeartbeats 4000000 in
theorem rvtrack_core (k:Nat) (hk22:22=k) (okC:CM→Bool) (cs:List CM) (v:Value) (w:World) (h:TrR w v cs) (hl:∀ c∈cs,okC c=true→1≤c.c.len∧c.c.len≤2147483647)
  (HC:Hid (∀ c∈cs,∀ w',Gr w w'→Calls Tryz.prog 96 #[c.val] w' fun e w''=>e=.returned (.bool (okC c))∧Gr w' w'')) :
  Calls Tryz.prog 53 #[v] w fun e w'=>e=.returned (.bool (decide (cs.length≤64) && (cs.all okC && decide (totM cs≤2147483647))))∧Gr w w':=by
 have aE:∀ w,(isAgg 81).run Tryz.prog w=.ok true w:=Tryz.isAgg81
 have zE:∀ w,(Go.sizeOf 81).run Tryz.prog w=.ok k w:=fun w=>by rw [← hk22];exact Tryz.sizeOf81 w
 replace hk22:=Lib.hid hk22
 obtain⟨a,cap,rfl,ha⟩:=h.shape
 replace ha:=Lib.hid ha
 replace hl:=Lib.hid hl
 clear h
 go_enter Tryz.func53,Tryz.ntmps53
 by_cases c6:64<cs.length
 ·have q6:decide (64<(cs.length:Int))=true:=decide_eq_true (by omega)
  have q6':decide (64<cs.length)=true:=decide_eq_true (by omega)
  rw [decide_eq_false (by omega:¬ cs.length≤64)]
  go_wp2
  go_ret
  exact⟨rfl,(by repeat (first | with_reducible exact Gr.refl _ | with_reducible assumption | refine Gr.setCell ?_ (by first | omega | (simp;done) | (simp;omega)) _ | refine Gr.alloc ?_ _ | refine Gr.drew ?_ | refine Gr.drewN ?_ _ | refine Gr.trans ?_ (by with_reducible assumption)))⟩
 have q6:decide (64<(cs.length:Int))=false:=decide_eq_false (by omega)
 have q6':decide (64<cs.length)=false:=decide_eq_false (by omega)
 rw [decide_eq_true (by omega:cs.length≤64)]
 go_wp2
 go_loopw [3,4] (fun n i wr=>∃ (j:Nat) (t:Int),j≤cs.length∧n=.int .i64 t∧i=.int .i64 j∧0≤t∧t≤2147483647 * j∧Hid ((cs.take j).all okC=true∧totM (cs.take j)=t)∧Gr w wr) (fun _ i _=>cs.length - (RowKit.intOf i).toNat)
 case atStart=>exact⟨0,0,Nat.zero_le _,rfl,rfl,by omega,by omega,Lib.hid ⟨rfl,rfl⟩,Gr.refl _⟩
 case round=>
  obtain⟨j,t,hj,rfl,rfl,ht0,ht1,hno,hg⟩:=hrel
  by_cases c1:j<cs.length
  ·have q1:decide ((j:Int)<(cs.length:Int))=true:=decide_eq_true (by omega)
   have i1:(0:Int)≤(j:Int)∧(j:Int)<(cs.length:Int):=by omega
   rcases ha.out with ha2 | ⟨b,o,rfl,hb,hc⟩
   ·omega
   have hx1:b<wr.heap.size:=Nat.lt_of_lt_of_le hb hg.size
   have hcell:∀ (x:Nat) (u:Value),cs[j].cells[x]?=some u→wr.cell? ⟨b,o+j * 22+x,none⟩=some u:=fun x u hu=>(hg.cells.1 b _ hb).trans (hc j c1 x u hu)
   have HCj:=HC.out _ (List.getElem_mem c1)
   have hlj:=hl.out _ (List.getElem_mem c1)
   have htk:totM (cs.take (j+1))=t+cs[j].c.len:=by rw [totM_take c1,hno.out.2]
   have hal:(cs.take (j+1)).all okC=okC cs[j]:=by
    rw [← List.take_append_getElem c1,List.all_append,hno.out.1]
    simp
   have hbad:okC cs[j]=false→(cs.all okC)=false:=fun e=>by
    rw [List.all_eq_false]
    exact⟨_,List.getElem_mem c1,by simp [e]⟩
   generalize cs[j]=m at hcell HCj hlj htk hal hbad
   obtain⟨l,hml⟩:∃ l,m.cells=l:=⟨_,rfl⟩
   have hlk:l.length=k:=by rw [← hml,← hk22.out];rfl
   have hl0:l[0]?=some (.int .i64 m.c.len):=by rw [← hml];rfl
   unfold CM.val at HCj
   rw [hml] at hcell HCj
   obtain⟨ln,hln⟩:∃ ln,m.c.len=ln:=⟨_,rfl⟩
   rw [hln] at hl0 hlj htk
   have hc0:=hcell 0 _ hl0
   rw [Nat.add_zero,show j * 22=j * k by rw [← hk22.out]] at hc0
   have la:Sem.run Tryz.prog (loadCellsFrom ⟨b,o+j * k,none⟩ 0 k #[]) wr=.ok l.toArray wr:=by rw [show j * k=j * 22 by rw [← hk22.out]];exact ld_row hlk hcell
   have HCj:=Lib.hid HCj
   cases hok:okC m with
   | false=>
    rw [hok] at HCj
    have hbad:=Lib.hid (hbad hok)
    clear hal htk hcell hc hlj hml hln hok
    go_wp2_with (go_at_call 96;(with_reducible refine (HCj.out _ ?_).mono ?_);(· exact hg);rintro e w2 ⟨rfl,hg2⟩)
    go_ret
    exact⟨by rw [hbad.out];simp,hg.trans hg2⟩
   | true=>
    rw [hok] at HCj hal
    obtain⟨n0,n1⟩:=hlj hok
    have hno2:=Lib.hid (And.intro hal htk)
    clear hal htk hcell hc hlj hml hln hok hbad hno
    go_wp2_with (go_at_call 96;(with_reducible refine (HCj.out _ ?_).mono ?_);(· exact hg);rintro e w2 ⟨rfl,hg2⟩;have y0:=(hg2.cells.1 b _ hx1).trans hc0;have hx2:=Nat.lt_of_lt_of_le hx1 hg2.size)
    go_roundw
    case rel=>exact⟨j+1,t+ln,by omega,by go_num,by go_num,by omega,by omega,hno2,hg.trans hg2⟩
    case measure=>simp [RowKit.intOf];omega
  ·have q1:decide ((j:Int)<(cs.length:Int))=false:=decide_eq_false (by omega)
   have hV:Hid (cs.all okC=true∧totM cs=t):=by
    have:=hno.out
    rw [List.take_of_length_le (by omega)] at this
    exact Lib.hid this
   go_wp2
   go_ret
   exact⟨by rw [hV.out.1,hV.out.2];simp,hg⟩
theorem rvtrack_any (cs:List CM) (v:Value) (w:World) (h:TrR w v cs) (hok:∀ c∈cs,ClOk c.c):Calls Tryz.prog 53 #[v] w fun e w'=>e=.returned (.bool (vtB (cs.map CM.c)))∧Gr w w':=by
 have h1:=rvtrack_core 22 rfl (fun c=>vcB c.c) cs v w h (fun c hc he=>by have:=((vcB_iff _).1 he).len;omega) (Lib.hid fun c hc w' hg=>rvclip_any c w' (hok c hc) ((h.ch c hc).gr hg))
 have h2:(decide (cs.length≤64) && (cs.all (fun c=>vcB c.c) && decide (totM cs≤2147483647)))=vtB (cs.map CM.c):=by
  unfold vtB
  rw [totM_eq,List.length_map,List.all_map]
  rfl
 rw [h2] at h1
 exact h1
set_option maxHeartbeats 2000000 in
theorem rnormal_any (cs:List CM) (v:Value) (w:World) (h:TrR w v cs) (hok:∀ c∈cs,ClOk c.c) :
  Calls Tryz.prog 54 #[v] w fun e w'=>∃ v' ts,e=.returned v'∧Gr w w'∧TrR w' v' ts∧ts.map CM.c=nmC (cs.map CM.c):=by
 have HV:Hid (∀ w',Gr w w'→Calls Tryz.prog 53 #[v] w' fun e w''=>e=.returned (.bool (vtB (cs.map CM.c)))∧Gr w' w''):=Lib.hid fun w' hg=>rvtrack_any cs v w' (h.gr hg) hok
 have HC:Hid (vtB (cs.map CM.c)=true→∀ w',Gr w w'→Calls Tryz.prog 46 #[v] w' fun e w''=>∃ v' ts,e=.returned v'∧Gr w' w''∧TrR w'' v' ts∧ts.map CM.c=nmC (cs.map CM.c)):=Lib.hid fun hv w' hg=>by
  have hT:=(vtB_iff _).1 hv
  have hl:=hT.len
  rw [List.length_map] at hl
  refine (rclean_any cs v w' (h.gr hg) (by omega) (fun c hc=>hT.vc _ (List.mem_map.2 ⟨c,hc,rfl⟩)) hT.tot).mono ?_
  rintro e w'' ⟨v',ts,rfl,h1,h2,h3,_⟩
  exact⟨v',ts,rfl,h1,h2,by rw [h3];unfold nmC;rw [if_pos hv]⟩
 have hno:Hid (vtB (cs.map CM.c)=false→nmC (cs.map CM.c)=[]):=Lib.hid fun hv=>by unfold nmC;rw [hv];rfl
 obtain⟨pa,pc,rfl,-⟩:=h.shape
 generalize nmC (cs.map CM.c)=N at *
 generalize vtB (cs.map CM.c)=B at *
 clear h hok
 cases B with
 | false=>
  have hN:=hno.out rfl
  go_enter Tryz.func54,Tryz.ntmps54
  go_wp2_with (go_at_call 53;(with_reducible refine (HV.out _ (Gr.refl _)).mono ?_);rintro e w1 ⟨rfl,hg1⟩)
  go_ret
  exact⟨_,[],rfl,hg1,TrR.nil _,by rw [hN];rfl⟩
 | true=>
  have HC1:=Lib.hid (HC.out rfl)
  clear HC hno
  go_enter Tryz.func54,Tryz.ntmps54
  go_wp2_with (first
   | (go_at_call 53;(with_reducible refine (HV.out _ (Gr.refl _)).mono ?_);rintro e w1 ⟨rfl,hg1⟩)
   | (go_at_call 46;(with_reducible refine (HC1.out _ hg1).mono ?_);rintro e w2 ⟨v',ts,rfl,hg2,hR,hm⟩))
  go_ret
  exact⟨_,ts,rfl,hg1.trans hg2,hR,hm⟩
end Go.Proofs.YtgbiodnfpbhjiaaGreatDoor
