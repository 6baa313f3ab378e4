/-
  Contracts of the deferred closures of packages edl and timeline, called while nothing panics.
  Conditions: none.
-/
import Derived.Test.YtnginfangeikpaaGreatDoorChecked
import Derived.Test.YtnginfangeikpaaGreatDoorMem
import Derived.WalkSpells
import Derived.WalkLawsBesides
import Derived.Defers
import Derived.Recover
import Derived.Test.YtnginfangeikpaaGreatDoorWalkEe
import Derived.Test.YtnginfangeikpaaGreatDoorShW
namespace Go.Proofs.YtnginfangeikpaaGreatDoor
open Go.RowKit Go.Lib
set_option linter.unusedSimpArgs false
set_option linter.unusedVariables false
theorem validD_idle (p:Addr) (w:World) :
  CallsD Tryz.prog 27 #[.pointer (some p)] .returning w fun e u' w'=>e=.returned (.tuple #[])∧u'=.returning∧w'=w:=by
 refine callsD_of_wpS Tryz.func27 rfl fun c₀ cs hu=>?_
 apply wpS_seq
 apply wpS_region
 simp [wpOpsS,go_sem,recoverD,hu,Tryz.ntmps27,Exit.thenS]
 refine wpS_cond (t:=false) (by simp [Act.eval,Array.replicate]) ?_
 simp only [Bool.false_eq_true,if_false]
 refine wpS_of_wp (wp_skip ?_)
 cases c₀
 simp_all [bodyPostS,results,Tryz.results27]
theorem formatD_idle (p q:Addr) (w:World) :
  CallsD Tryz.prog 47 #[.pointer (some p),.pointer (some q)] .returning w fun e u' w'=>e=.returned (.tuple #[])∧u'=.returning∧w'=w:=by
 refine callsD_of_wpS Tryz.func47 rfl fun c₀ cs hu=>?_
 apply wpS_seq
 apply wpS_region
 simp [wpOpsS,go_sem,recoverD,hu,Tryz.ntmps47,Exit.thenS]
 refine wpS_cond (t:=false) (by simp [Act.eval,Array.replicate]) ?_
 simp only [Bool.false_eq_true,if_false]
 refine wpS_of_wp (wp_skip ?_)
 cases c₀
 simp_all [bodyPostS,results,Tryz.results47]
theorem trackD_idle (p q:Addr) (w:World) :
  CallsD Tryz.prog 13 #[.pointer (some p),.pointer (some q)] .returning w fun e u' w'=>e=.returned (.tuple #[])∧u'=.returning∧w'=w:=by
 refine callsD_of_wpS Tryz.func13 rfl fun c₀ cs hu=>?_
 apply wpS_seq
 apply wpS_region
 simp [wpOpsS,go_sem,recoverD,hu,Tryz.ntmps13,Exit.thenS]
 refine wpS_cond (t:=false) (by simp [Act.eval,Array.replicate]) ?_
 simp only [Bool.false_eq_true,if_false]
 refine wpS_of_wp (wp_skip ?_)
 cases c₀
 simp_all [bodyPostS,results,Tryz.results13]
theorem ofD_idle (p q:Addr) (w:World) :
  CallsD Tryz.prog 51 #[.pointer (some p),.pointer (some q)] .returning w fun e u' w'=>e=.returned (.tuple #[])∧u'=.returning∧w'=w:=by
 refine callsD_of_wpS Tryz.func51 rfl fun c₀ cs hu=>?_
 apply wpS_seq
 apply wpS_region
 simp [wpOpsS,go_sem,recoverD,hu,Tryz.ntmps51,Exit.thenS]
 refine wpS_cond (t:=false) (by simp [Act.eval,Array.replicate]) ?_
 simp only [Bool.false_eq_true,if_false]
 refine wpS_of_wp (wp_skip ?_)
 cases c₀
 simp_all [bodyPostS,results,Tryz.results51]
theorem joinD_idle (p q:Addr) (w:World) :
  CallsD Tryz.prog 33 #[.pointer (some p),.pointer (some q)] .returning w fun e u' w'=>e=.returned (.tuple #[])∧u'=.returning∧w'=w:=by
 refine callsD_of_wpS Tryz.func33 rfl fun c₀ cs hu=>?_
 apply wpS_seq
 apply wpS_region
 simp [wpOpsS,go_sem,recoverD,hu,Tryz.ntmps33,Exit.thenS]
 refine wpS_cond (t:=false) (by simp [Act.eval,Array.replicate]) ?_
 simp only [Bool.false_eq_true,if_false]
 refine wpS_of_wp (wp_skip ?_)
 cases c₀
 simp_all [bodyPostS,results,Tryz.results33]
set_option maxRecDepth 20000 in
set_option maxHeartbeats 4000000 in
theorem evalid_any (l:El) (v:Value) (w:World) (h:ElR w v l):Calls Tryz.prog 14 #[l.val v] w fun e w'=>e=.returned (.bool (vEl l))∧Gr w w':=by
 obtain⟨title,base,drop,evs⟩:=l
 unfold El.val
 simp only
 have hmf:=hmf_any Tryz.prog
 have hnm:=h.r
 have hnt:=h.t
 have hn:=h.n
 simp only at hnm hnt hn
 obtain⟨a,cap,hv,ha⟩:=h.evs.shape
 subst hv
 simp only at ha ⊢
 clear h
 have hnew:=(Cel.new w #[.string title,.int .i64 base,.bool drop,.slice a evs.length cap] 25).alloc (.cells #[.bool false] 4)
 have hres:=Cel.new (w.alloc (.cells #[.string title,.int .i64 base,.bool drop,.slice a evs.length cap] 25)) #[.bool false] 4
 rw [show (w.alloc (.cells #[.string title,.int .i64 base,.bool drop,.slice a evs.length cap] 25)).heap.size=w.heap.size+1 by simp] at hres
 unfold vEl
 simp only
 cases ho:C19.okB base drop with
 | false=>
  have HD:Hid (∀ w',Calls Tryz.prog 28 #[.int .i64 base,.bool drop] w' fun e w''=>e=.returned (.tuple #[.int .i64 0,.int .i64 1])∧w'=w''):=fun w'=>C19.day_no base drop w' ho
  clear ha ho hnew hres
  go_enter_defers Tryz.func14,Tryz.ntmps14
  go_wp2_with (go_at_call 28;(with_reducible refine (HD.out _).mono ?_);rintro e w1 ⟨rfl,rfl⟩)
  refine leaves_cons (f:=27) (args:=#[.pointer (some ⟨w.heap.size+1,0,none⟩)]) (by simp) (by simp [go_sem]) ?_
  refine (validD_idle _ _).mono ?_
  rintro e u' w'' ⟨rfl,rfl,rfl⟩
  simp [Leaves,settle,results,Tryz.results14,go_sem,go_sem]
  exact (by repeat (first | with_reducible exact Gr.refl _ | with_reducible assumption | refine Gr.setCell ?_ (by first | omega | (simp;done) | (simp;omega)) _ | refine Gr.alloc ?_ _ | refine Gr.drew ?_ | refine Gr.drewN ?_ _ | refine Gr.trans ?_ (by with_reducible assumption)))
 | true=>
  obtain⟨d0,d1⟩:=day_bounds ho
  have HD:Hid (∀ w',Calls Tryz.prog 28 #[.int .i64 base,.bool drop] w' fun e w''=>e=.returned (.tuple #[.int .i64 (C19.dayN base drop),.int .i64 0])∧w'=w''):=fun w'=>C19.day_yes base drop w' ho
  have HL:Hid (∀ w',Calls Tryz.prog 29 #[.string title] w' fun e w''=>e=.returned (.bool (vLine title))∧Gr w' w''):=fun w'=>title_any title w' hnt
  have HE:Hid (∀ (e:Ev) (least:Int) w',0≤least→e∈evs→Calls Tryz.prog 30 #[e.val,.int .i64 least,.int .i64 (C19.dayN base drop)] w' fun en w''=>en=.returned (.bool (vEv e least (C19.dayN base drop)))∧Gr w' w''):=fun e least w' h0 he=>vevent_any e least _ w' h0 d1 (hnm e he)
  generalize C19.dayN base drop=day at *
  rw [Bool.true_and]
  clear ho
  cases hl:vLine title with
  | false=>
   rw [hl] at HL
   clear ha HE hl
   go_enter_defers Tryz.func14,Tryz.ntmps14
   go_wp2_with (first
    | (go_at_call 28;(with_reducible refine (HD.out _).mono ?_);rintro e w1 ⟨rfl,rfl⟩)
    | (go_at_call 29;(with_reducible refine (HL.out _).mono ?_);rintro e w1 ⟨rfl,hg1⟩;have k1:=(hres.gr hg1).lt;obtain⟨k2,k3⟩:=(hres.gr hg1).one))
   refine leaves_cons (f:=27) (args:=#[.pointer (some ⟨w.heap.size+1,0,none⟩)]) (by simp) (by simp [go_sem]) ?_
   refine (validD_idle _ _).mono ?_
   rintro e u' w'' ⟨rfl,rfl,rfl⟩
   simp [Leaves,settle,results,Tryz.results14,go_sem,k2]
   exact (by repeat (first | with_reducible exact Gr.refl _ | with_reducible assumption | refine Gr.setCell ?_ (by first | omega | (simp;done) | (simp;omega)) _ | refine Gr.alloc ?_ _ | refine Gr.drew ?_ | refine Gr.drewN ?_ _ | refine Gr.trans ?_ (by with_reducible assumption)))
  | true=>
   rw [hl] at HL
   rw [Bool.true_and]
   clear hl
   by_cases hn9:999<evs.length
   ·rw [decide_eq_false (by omega:¬ evs.length≤999),Bool.false_and]
    have q9:decide (999<evs.length)=true:=decide_eq_true hn9
    clear ha HE
    go_enter_defers Tryz.func14,Tryz.ntmps14
    go_wp2_with (first
     | (go_at_call 28;(with_reducible refine (HD.out _).mono ?_);rintro e w1 ⟨rfl,rfl⟩)
     | (go_at_call 29;(with_reducible refine (HL.out _).mono ?_);rintro e w1 ⟨rfl,hg1⟩;have k1:=(hres.gr hg1).lt;obtain⟨k2,k3⟩:=(hres.gr hg1).one;have k4:=(hnew.gr hg1).lt;have k5:=((hnew.gr hg1).2 3 _ rfl).1))
    refine leaves_cons (f:=27) (args:=#[.pointer (some ⟨w.heap.size+1,0,none⟩)]) (by simp) (by simp [go_sem]) ?_
    refine (validD_idle _ _).mono ?_
    rintro e u' w'' ⟨rfl,rfl,rfl⟩
    simp [Leaves,settle,results,Tryz.results14,go_sem,k2]
    exact (by repeat (first | with_reducible exact Gr.refl _ | with_reducible assumption | refine Gr.setCell ?_ (by first | omega | (simp;done) | (simp;omega)) _ | refine Gr.alloc ?_ _ | refine Gr.drew ?_ | refine Gr.drewN ?_ _ | refine Gr.trans ?_ (by with_reducible assumption)))
   ·rw [decide_eq_true (by omega:evs.length≤999),Bool.true_and]
    have q9:decide (999<evs.length)=false:=decide_eq_false hn9
    obtain⟨R,hR⟩:∃ R,vEvs day 0 evs=R:=⟨_,rfl⟩
    rw [hR]
    have HS:Hid (vEvs day 0 (evs.drop 0)=R):=hR
    have ha:=Lib.hid ha
    clear hR
    go_enter_defers Tryz.func14,Tryz.ntmps14
    go_wp2_with (first
     | (go_at_call 28;(with_reducible refine (HD.out _).mono ?_);rintro e w1 ⟨rfl,rfl⟩)
     | (go_at_call 29;(with_reducible refine (HL.out _).mono ?_);rintro e w1 ⟨rfl,hg1⟩;have hr1:=hres.gr hg1;have k1:=hr1.lt;obtain⟨k2,k3⟩:=hr1.one;have k4:=(hnew.gr hg1).lt;have k5:=((hnew.gr hg1).2 3 _ rfl).1))
    have hw1:Gr w w1:=(((Gr.refl w).alloc _).alloc _).trans hg1
    clear k1 k2 k3 k4 k5 hg1 hnew hres
    go_loopw [5,34] (fun af i wr=>∃ (j:Nat) (x:Int),j≤evs.length∧i=.int .i64 j∧af=.int .i64 x∧0≤x∧Hid (vEvs day x (evs.drop j)=R)∧Gr w1 wr) (fun _ i _=>evs.length - (RowKit.intOf i).toNat)
    case atStart=>exact⟨0,0,Nat.zero_le _,rfl,rfl,Int.le_refl _,HS,Gr.refl _⟩
    case round=>
     obtain⟨j,x,h3,rfl,rfl,hx,hno,hg⟩:=hrel
     clear HS
     have hrr:=hr1.gr hg
     have k1:=hrr.lt
     obtain⟨k2,k3⟩:=hrr.one
     by_cases c1:j<evs.length
     ·have q6:decide (j<evs.length)=true:=decide_eq_true c1
      rcases ha.out with ha2 | ⟨b,o,rfl,hb,hc⟩
      ·omega
      have hx1:b<wr.heap.size:=Nat.lt_of_lt_of_le hb (hw1.trans hg).size
      have hd:=hno.out
      rw [vEvs_step c1] at hd
      obtain⟨e0,e1,e2,e3,e4,e5,e6,e7⟩:=ev_cells c1 hb (hw1.trans hg) hc
      have hmem:=List.getElem_mem c1
      have HEj:=fun w'=>HE.out evs[j] x w' hx hmem
      generalize evs[j]=c at hd e0 e1 e2 e3 e4 e5 e6 e7 HEj
      clear hc hmem
      unfold Ev.val at HEj
      have HEj:=Lib.hid HEj
      have hbox:=Cel.new wr #[.int .i64 c.k,.int .i64 c.p,.int .i64 c.fr,.string c.reel,.int .i64 c.i,.int .i64 c.o,.int .i64 c.f,.int .i64 c.t] 38
      have hrb:=hrr.alloc (.cells #[.int .i64 c.k,.int .i64 c.p,.int .i64 c.fr,.string c.reel,.int .i64 c.i,.int .i64 c.o,.int .i64 c.f,.int .i64 c.t] 38)
      have hgb:Gr wr (wr.alloc (.cells #[.int .i64 c.k,.int .i64 c.p,.int .i64 c.fr,.string c.reel,.int .i64 c.i,.int .i64 c.o,.int .i64 c.f,.int .i64 c.t] 38)):=(Gr.refl wr).alloc _
      cases hv:vEv c x day with
      | false=>
       rw [hv] at HEj hd
       have hV:Hid (R=false):=hd.symm
       clear hd hno hv
       go_wp2_with (go_at_call 30;(with_reducible refine (HEj.out _).mono ?_);rintro e w2 ⟨rfl,hg2⟩;have y1:=(hrb.gr hg2).lt;obtain⟨y2,y3⟩:=(hrb.gr hg2).one)
       rw [hV.out]
       refine leaves_cons (f:=27) (args:=#[.pointer (some ⟨w.heap.size+1,0,none⟩)]) (by simp) (by simp [go_sem]) ?_
       refine (validD_idle _ _).mono ?_
       rintro e u' w'' ⟨rfl,rfl,rfl⟩
       simp [Leaves,settle,results,Tryz.results14,go_sem,y2]
       exact Gr.setCell (hw1.trans ((hg.trans hgb).trans hg2)) (by simp) _
      | true=>
       rw [hv] at HEj hd
       have hV:Hid (vEvs day c.t (evs.drop (j+1))=R):=hd
       have hve:=vEv_iff.1 hv
       have ht:0≤c.t:=by have:=hve.l;have:=hve.ft;omega
       clear hd hno hv hve
       go_wp2_with (go_at_call 30;(with_reducible refine (HEj.out _).mono ?_);rintro e w2 ⟨rfl,hg2⟩;have y1:=(hbox.gr hg2).lt;have y2:=((hbox.gr hg2).2 7 _ rfl).1)
       go_roundw
       case rel=>exact⟨j+1,c.t,by omega,by go_num,rfl,ht,hV,(hg.trans hgb).trans hg2⟩
       case measure=>simp [RowKit.intOf];omega
     ·have q6:decide (j<evs.length)=false:=decide_eq_false c1
      have hV:Hid (R=true):=by
       have hd:=hno.out
       rw [List.drop_of_length_le (by omega)] at hd
       exact hd.symm
      clear hno
      go_wp2
      rw [hV.out]
      refine leaves_cons (f:=27) (args:=#[.pointer (some ⟨w.heap.size+1,0,none⟩)]) (by simp) (by simp [go_sem]) ?_
      refine (validD_idle _ _).mono ?_
      rintro e u' w'' ⟨rfl,rfl,rfl⟩
      simp [Leaves,settle,results,Tryz.results14,go_sem,k1,k2,k3]
      exact Gr.setCell (hw1.trans hg) (by simp) _
end Go.Proofs.YtnginfangeikpaaGreatDoor
