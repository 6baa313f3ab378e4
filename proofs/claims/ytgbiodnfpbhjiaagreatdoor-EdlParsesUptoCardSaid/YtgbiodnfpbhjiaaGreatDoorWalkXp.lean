/-
  Contract of Parse of the reference of edit lists.
  Conditions: the text has at most 2,000,000 bytes.
-/
import Derived.Test.YtgbiodnfpbhjiaaGreatDoorWalkXm
import Derived.Test.YtgbiodnfpbhjiaaGreatDoorWalkXq
import Derived.Test.YtgbiodnfpbhjiaaGreatDoorShelfB
namespace Go.Proofs.YtgbiodnfpbhjiaaGreatDoor
open Go.RowKit Go.Lib
set_option linter.unusedSimpArgs false
set_option linter.unusedVariables false
theorem rparse30_base (s:ByteArray) (b:Int) (w:World) (hb:C19.okB b false=false) :
  Calls Tryz.prog 27 #[.string s,.int .i64 b] w fun e w'=>e=.returned (.tuple #[.agg #[.string ⟨#[]⟩,.int .i64 0,.bool false,.slice none 0 0],.int .i64 1])∧Gr w w':=by
 have HD:=Lib.hid fun w=>C19.rday_no b false w hb
 clear hb
 have hb0:=Blk.new w [.string ⟨#[]⟩,.int .i64 0,.bool false,.slice none 0 0] 24
 have f0:=hb0.lt
 obtain⟨c1,f1⟩:=hb0.cel.2 0 _ rfl
 obtain⟨c2,f2⟩:=hb0.cel.2 1 _ rfl
 obtain⟨c3,f3⟩:=hb0.cel.2 2 _ rfl
 obtain⟨c4,f4⟩:=hb0.cel.2 3 _ rfl
 go_enter Tryz.func27,Tryz.ntmps27
 go_wp2_with (go_at_call 38;(with_reducible refine (HD.out _).mono ?_);rintro e w1 ⟨rfl,rfl⟩)
 simp [bodyPost,results,Tryz.results27,go_sem]
 exact (by repeat (first | refine Gr.setCell ?_ (by first | omega | (simp;done) | (simp;omega)) _ | refine Gr.alloc ?_ _ | refine Gr.drew ?_ | refine Gr.drewN ?_ _ | with_reducible assumption | with_reducible exact Gr.refl _ | refine Gr.trans ?_ (by with_reducible assumption)))
set_option maxRecDepth 20000 in
set_option maxHeartbeats 8000000 in
theorem rparse30_core (s:ByteArray) (b:Int) (w:World) (hs:s.size≤2000000) (D0:Int) (ws:List ByteArray) (hwl:ws.length≤s.size+1) (hsz:∀ x∈ws,x.size≤s.size) (hws:Hid ((dvG 10 [] s.data.toList).map toBa=ws))
  (HD:Hid (∀ w,Calls Tryz.prog 38 #[.int .i64 b,.bool false] w fun e w'=>e=.returned (.tuple #[.int .i64 D0,.int .i64 0])∧w=w'))
  (HV:Hid (∀ w,Calls Tryz.prog 68 #[.string s,.int .u8 10] w fun e w'=>∃ v,e=.returned v∧Gr w w'∧StrsR w' v ws))
  (HD2:Hid (∀ d,∃ D E,(E=0→C19.okB b d=true)∧(E≠0→C19.okB b d=false)∧∀ w,Calls Tryz.prog 38 #[.int .i64 b,.bool d] w fun e w'=>e=.returned (.tuple #[.int .i64 D,.int .i64 E])∧w=w'))
  (HF:Hid (∀ (l:El) (v:Value) w,ElR w v l→∃ (x:ByteArray) (E:Int),(E=0↔vEl l=true)∧(E=0→x.data.toList=fmtB l)∧Calls Tryz.prog 25 #[l.val v] w fun e w'=>e=.returned (.tuple #[.string x,.int .i64 E])∧Gr w w')) :
  Calls Tryz.prog 27 #[.string s,.int .i64 b] w fun e w'=>∃ (l:El) (lv:Value) (E:Int),e=.returned (.tuple #[l.val lv,.int .i64 E])∧Gr w w'∧ElR w' lv l∧(∀ a n c,lv=.slice a n c→n≤c)∧PlR b s.data.toList l E:=by
 have hb0:=Blk.new w [.string ⟨#[]⟩,.int .i64 0,.bool false,.slice none 0 0] 24
 have hg0:Gr w (w.alloc (.cells #[.string ⟨#[]⟩,.int .i64 0,.bool false,.slice none 0 0] 24)):=(Gr.refl w).alloc _
 go_enter Tryz.func27,Tryz.ntmps27
 go_upto_region 5 with (first
  | (go_at_call 38;(with_reducible refine (HD.out _).mono ?_);rintro e w1 ⟨rfl,rfl⟩)
  | (go_at_call 68;(with_reducible refine (HV.out _).mono ?_);rintro e w2 ⟨v,rfl,hg2,hws2⟩;obtain⟨wa,cap,rfl,hsh⟩:=hws2.shape))
 have hr:=hb0.gr hg2
 have hgw:=hg0.trans hg2
 clear hb0 hg0 hg2 HD HV hws2
 have r0:=hr.lt
 obtain⟨r1,v1⟩:=hr.cel.2 0 _ rfl
 obtain⟨r2,v2⟩:=hr.cel.2 1 _ rfl
 obtain⟨r3,v3⟩:=hr.cel.2 2 _ rfl
 obtain⟨r4,v4⟩:=hr.cel.2 3 _ rfl
 have hlen:Hid ((dvG 10 [] s.data.toList).length=ws.length):=Lib.hid (by rw [← hws.out,List.length_map])
 by_cases hn:ws.length<3
 ·have q1:decide ((ws.length:Int)<3)=true:=decide_eq_true (by omega)
  clear hsh
  go_wp2
  simp [bodyPost,results,Tryz.results27,go_sem,r1,r2,r3,r4]
  refine⟨⟨⟨#[]⟩,0,false,[]⟩,.slice none 0 0,3,⟨rfl,rfl⟩,?_,⟨EvsR.nil _,by decide,fun e he=>(by cases he),by decide⟩,fun a n c e=>(by injection e;omega),PlR.none (fun l hE=>by have h1:=(isE_long hE).1;rw [hlen.out] at h1;omega)⟩
  repeat (first | (with_reducible exact hgw) | (with_reducible refine Gr.setCell ?_ (by simp) _))
 ·have q1:decide ((ws.length:Int)<3)=false:=decide_eq_false (by omega)
  rcases hsh with h0 | ⟨wb,wo,rfl,hwb,hwc⟩
  ·omega
  have c0:w2.cell? ⟨wb,wo,none⟩=some (.string ws[0]):=hwc 0 (by omega)
  have c1:w2.cell? ⟨wb,wo+1,none⟩=some (.string ws[1]):=hwc 1 (by omega)
  have i0:(0:Int)<(ws.length:Int):=by omega
  have i0':0<ws.length:=by omega
  have i1:(1:Int)<(ws.length:Int):=by omega
  have i1':1<ws.length:=by omega
  have hg0:Hid ((dvG 10 [] s.data.toList)[0]?=some ws[0].data.toList):=Lib.hid (by
   have:((dvG 10 [] s.data.toList).map toBa)[0]?=some ws[0]:=by rw [hws.out];exact List.getElem?_eq_getElem _
   rw [List.getElem?_map] at this
   cases hx:(dvG 10 [] s.data.toList)[0]? with
   | none=>rw [hx] at this;cases this
   | some y=>rw [hx] at this;injection this with this;rw [← this,toBa_list])
  have hg1:Hid ((dvG 10 [] s.data.toList)[1]?=some ws[1].data.toList):=Lib.hid (by
   have:((dvG 10 [] s.data.toList).map toBa)[1]?=some ws[1]:=by rw [hws.out];exact List.getElem?_eq_getElem _
   rw [List.getElem?_map] at this
   cases hx:(dvG 10 [] s.data.toList)[1]? with
   | none=>rw [hx] at this;cases this
   | some y=>rw [hx] at this;injection this with this;rw [← this,toBa_list])
  have hz0:=hsz _ (List.getElem_mem (show 0<ws.length by omega))
  obtain⟨t0,ht0⟩:∃ t0,ws[0]=t0:=⟨_,rfl⟩
  obtain⟨t1,ht1⟩:∃ t1,ws[1]=t1:=⟨_,rfl⟩
  rw [ht0] at c0 hg0 hz0
  rw [ht1] at c1 hg1
  clear ht0 ht1
  by_cases h7:t0.size<7
  ·have q7:decide ((t0.size:Int)<7)=true:=decide_eq_true (by omega)
   clear hwc
   go_wp2
   simp [bodyPost,results,Tryz.results27,go_sem,r1,r2,r3,r4]
   refine⟨⟨⟨#[]⟩,0,false,[]⟩,.slice none 0 0,3,⟨rfl,rfl⟩,?_,⟨EvsR.nil _,by decide,fun e he=>(by cases he),by decide⟩,fun a n c e=>(by injection e;omega),PlR.none (fun l hE=>by have h1:=(isE_long hE).2 _ hg0.out;rw [ba_len] at h1;omega)⟩
   repeat (first | (with_reducible exact hgw) | (with_reducible refine Gr.setCell ?_ (by simp) _))
  ·have q7:decide ((t0.size:Int)<7)=false:=decide_eq_false (by omega)
   have k7:(7:Int)≤(t0.size:Int):=by omega
   have k7':7≤t0.size:=by omega
   obtain⟨B1,hB1⟩:∃ B1,(t1.toList == [70,67,77,58,32,68,82,79,80,32,70,82,65,77,69])=B1:=⟨_,rfl⟩
   have hB:Hid (decide (t1.data.toList=fcmB true)=B1):=Lib.hid (by rw [← hB1,bl_iff];rfl)
   replace hwc:=Lib.hid hwc
   go_upto_region 7 with fail
   refine wp_region_made1 10 (.cells #[.string ⟨#[]⟩,.int .i64 0,.bool false,.slice none 0 0] 24) _ (by as_aux_lemma=>kernel_rfl) (by as_aux_lemma=>kernel_rfl) rfl rfl (fun a w=>by simp [execOp,go_sem]) (fun B hB hq1 hq2=>?_)
   simp only [List.take_succ_cons,List.take_zero,List.drop_succ_cons,List.drop_zero]
   repeat (first | go_big_quiet_skip | (go_big_quiet_want;go_big_quiet_op;first | go_big_quiet_on | (apply Exists.intro;refine⟨fun _=>?_,?_⟩;(· (fail));go_big_quiet_on)))
   refine wpQuiet_nil ?_
   clear hq1 hq2 hB
   rintro LB w3 hg3 hs3_LB hb3_LB
   clear r0 r1 r2 r3 r4 v1 v2 v3 v4
   have hL3:Blk w3 LB 24 [.string ⟨#[]⟩,.int .i64 0,.bool false,.slice none 0 0]:=hb3_LB
   have y0:=hL3.lt
   obtain⟨y1,u1⟩:=hL3.cel.2 0 _ rfl
   obtain⟨y2,u2⟩:=hL3.cel.2 1 _ rfl
   obtain⟨y3,u3⟩:=hL3.cel.2 2 _ rfl
   obtain⟨y4,u4⟩:=hL3.cel.2 3 _ rfl
   go_upto_region 8 with fail
   obtain⟨tt,htt⟩:∃ tt,t0.extract 7 t0.size=tt:=⟨_,rfl⟩
   have htl:(⟨(t0.data.toList.drop 7).toArray⟩:ByteArray)=tt:=by
    rw [← htt]
    apply ba_ext
    rw [extract_to_end]
   have htz:tt.size≤2000000:=by
    have:tt.size≤t0.size:=by rw [← htt,ByteArray.size_extract];omega
    omega
   rw [htt]
   have hL7:=(((hL3.set 0 (.string tt)).set 1 (.int .i64 b)).set 2 (.bool B1)).set 3 (.slice none 0 0)
   simp only [zS,zZ] at hL7
   have hg7:Gr w2 ((((w3.setCell ⟨LB,0,none⟩ (.string tt)).setCell ⟨LB,1,none⟩ (.int .i64 b)).setCell ⟨LB,2,none⟩ (.bool B1)).setCell ⟨LB,3,none⟩ (.slice none 0 0)):=by
    repeat (first | (with_reducible exact hg3) | (with_reducible refine Gr.setCell ?_ (by simp;omega) _))
   have hJ0:Hid (Jr b s.data.toList tt B1 []):=Lib.hid (by
    have h:=Jr.start (b:=b) hg0.out hg1.out
    rw [hB.out,htl] at h
    exact h)
   have hLw:w2.heap.size≤LB:=by omega
   obtain⟨R,hR⟩:∃ R,w.heap.size=R:=⟨_,rfl⟩
   rw [hR] at hr ⊢
   replace hR:=Lib.hid hR
   have hRo:=hR.out
   have hR2:=hr.lt
   have hwc7:=hwc
   clear hL3 hg3 hb3_LB hg0 hg1 hB htl htt c0 c1 i0 i0' i1 i1' k7 k7' hz0 y0 y1 y2 y3 y4 u1 u2 u3 u4
   generalize (((w3.setCell ⟨LB,0,none⟩ (.string tt)).setCell ⟨LB,1,none⟩ (.int .i64 b)).setCell ⟨LB,2,none⟩ (.bool B1)).setCell ⟨LB,3,none⟩ (.slice none 0 0)=W7 at *
   have hr7:=hr.gr hg7
   obtain⟨D,E,hE1,hE2,HDc⟩:=HD2.out B1
   replace HDc:=Lib.hid HDc
   have y0:=hL7.lt
   obtain⟨y3,u3⟩:=hL7.cel.2 2 _ rfl
   have hgw7:=hgw.trans hg7
   by_cases hE:E=0
   ·have q0:(E != 0)=false:=by simp [hE]
    replace hE:=Lib.hid hE
    have hI0:PaI w2 LB tt b B1 (.slice none 0 0) [] W7:=⟨hg7,hL7,World.ownsRow_nil _ _ _ _,hLw⟩
    go_wp2_with (go_at_call 38;(with_reducible refine (HDc.out _).mono ?_);rintro e w8 ⟨rfl,rfl⟩)
    clear y0 y3 u3 hL7 hg7 hgw7 hr7 HDc HD2 hE1 hE2
    go_loopw [12] (fun v wr=>∃ (i:Nat) (acc:List Ev) (lv:Value),v=.int .i64 i∧acc.length+2=i∧i+1≤ws.length∧PaI w2 LB tt b B1 lv acc wr∧(∀ e∈acc,e.reel.size≤s.size)∧Hid (Jr b s.data.toList tt B1 acc)) (fun v _=>ws.length - (RowKit.intOf v).toNat)
    case atStart=>exact⟨2,[],_,rfl,rfl,by omega,hI0,fun e he=>(by cases he),hJ0⟩
    case round=>
     obtain⟨i,acc,lv,rfl,hai,hiw,hI,hrl,hJ⟩:=hrel
     clear hI0 hJ0
     by_cases c:i+1<ws.length
     ·have q1:decide ((i:Int)<(ws.length:Int) - 1)=true:=decide_eq_true (by omega)
      have hiw':i<ws.length:=by omega
      obtain⟨ti,hti⟩:∃ ti,ws[i]=ti:=⟨_,rfl⟩
      have ct:wr.cell? ⟨wb,wo+i,none⟩=some (.string ti):=(hI.gr.cells.1 wb _ hwb).trans (by rw [← hti];exact hwc.out i hiw')
      have hgi:(dvG 10 [] s.data.toList)[acc.length+2]?=some ti.data.toList:=by
       have:((dvG 10 [] s.data.toList).map toBa)[i]?=some ti:=by rw [hws.out,← hti];exact List.getElem?_eq_getElem _
       rw [List.getElem?_map] at this
       rw [hai]
       cases hx:(dvG 10 [] s.data.toList)[i]? with
       | none=>rw [hx] at this;cases this
       | some y=>rw [hx] at this;injection this with this;rw [← this,toBa_list]
      have htiz:ti.size≤s.size:=by rw [← hti];exact hsz _ (List.getElem_mem hiw')
      obtain⟨x,ok,hpe,hxz,HLn⟩:=rline_any ti b B1 (by omega)
      obtain⟨hj1,hj2⟩:=Jr.step hJ.out hgi (by rw [hlen.out];omega) hpe
      obtain⟨ra,rc,hlv⟩:∃ ra rc,lv=.slice ra acc.length rc:=own_len hI.row
      subst hlv
      obtain⟨ll,hxl⟩:∃ ll,x.cells=ll:=⟨_,rfl⟩
      have HL1:Hid (∀ w',Calls Tryz.prog 69 #[.string ti,.agg #[.string tt,.int .i64 b,.bool B1,.slice ra acc.length rc]] w' fun en w''=>en=.returned (.tuple #[.agg ll.toArray,.bool ok])∧Gr w' w''):=Lib.hid fun w'=>by
       have:=HLn tt (.slice ra acc.length rc) w'
       have e1:x.val=.agg ll.toArray:=by rw [← hxl];rfl
       rwa [e1] at this
      have hl8:Hid (ll.length=8):=Lib.hid (by rw [← hxl];rfl)
      have hone8:∀ v∈ll,v.oneCell'=true:=by rw [← hxl];exact ev_one x
      replace hj1:=Lib.hid hj1
      replace hj2:=Lib.hid hj2
      replace hxl:=Lib.hid hxl
      replace hrl:=Lib.hid hrl
      have hlb:=hI.lb
      have hwbr:=Nat.lt_of_lt_of_le hwb hI.gr.size
      have ii:(i:Int)<(ws.length:Int):=by omega
      clear hJ hgi hti HLn hpe HF
      have y0:=hlb.lt
      obtain⟨y1,u1⟩:=hlb.cel.2 0 _ rfl
      obtain⟨y2,u2⟩:=hlb.cel.2 1 _ rfl
      obtain⟨y3,u3⟩:=hlb.cel.2 2 _ rfl
      obtain⟨y4,u4⟩:=hlb.cel.2 3 _ rfl
      go_upto_region 14 with fail
      obtain⟨k8,hk8⟩:∃ k8,8=k8:=⟨_,rfl⟩
      have aE8:∀ w,(isAgg 30).run Tryz.prog w=.ok true w:=Tryz.isAgg30
      have zE8:∀ w,(Go.sizeOf 30).run Tryz.prog w=.ok k8 w:=fun w=>by rw [← hk8];exact Tryz.sizeOf30 w
      have hk80:¬ k8=0:=by omega
      have hl8k:ll.length=k8:=hl8.out.trans hk8
      replace hk8:=Lib.hid hk8
      go_cut [13,14] (fun v13 v14 wx=>∃ EB,v13=.pointer (some ⟨EB,0,none⟩)∧v14=.bool ok∧Gr wr wx∧Blk wx EB 30 ll∧wr.heap.size≤EB)
      case first=>
       have hgd:Gr wr wr.drew:=(Gr.refl wr).drew
       refine wp_region_still (Keep 9 (fun wz=>Gr wr wz)) 12 rfl (by as_aux_lemma=>kernel_rfl) ?_
       show stillAny _ _ _ _ _ _ #[false,false,false,false,false,false,false,false,false,false,false,false] _ _
       obtain⟨Wd,hWd⟩:∃ Wd,wr.drew=Wd:=⟨_,rfl⟩
       rw [hWd] at hgd ⊢
       clear hWd
       refine still_pure 0 (v:=.slice (some ⟨wb,wo,none⟩) ws.length cap) rfl (by as_aux_lemma=>kernel_rfl) (by as_aux_lemma=>kernel_rfl) (by as_aux_lemma=>kernel_rfl) (fun _=>hgd) rfl (fun w hw=>?_) ?_
       ·simp [execOp,go_sem] <;> (intros;omega)
       simp only [Act.put,zI,zS,zZ]
       refine still_pure 1 (v:=.int .i64 i) rfl (by as_aux_lemma=>kernel_rfl) (by as_aux_lemma=>kernel_rfl) (by as_aux_lemma=>kernel_rfl) (fun _=>hgd) rfl (fun w hw=>?_) ?_
       ·simp [execOp,go_sem] <;> (intros;omega)
       simp only [Act.put,zI,zS,zZ]
       refine still_pure 2 (v:=.pointer (some ⟨wb,wo+i,none⟩)) rfl (by as_aux_lemma=>kernel_rfl) (by as_aux_lemma=>kernel_rfl) (by as_aux_lemma=>kernel_rfl) (fun _=>hgd) rfl (fun w hw=>?_) ?_
       ·simp [execOp,go_sem,ii,hiw']
       simp only [Act.put,zI,zS,zZ]
       refine still_pure 3 (v:=.string ti) rfl (by as_aux_lemma=>kernel_rfl) (by as_aux_lemma=>kernel_rfl) (by as_aux_lemma=>kernel_rfl) (fun _=>hgd) rfl (fun w hw=>?_) ?_
       ·have hw2:=hw (by decide)
        have q1:=(hw2.cells.1 wb (wo+i) hwbr).trans ct
        simp [execOp,go_sem,q1]
       simp only [Act.put,zI,zS,zZ]
       refine still_pure 4 (v:=.agg #[.string tt,.int .i64 b,.bool B1,.slice ra acc.length rc]) rfl (by as_aux_lemma=>kernel_rfl) (by as_aux_lemma=>kernel_rfl) (by as_aux_lemma=>kernel_rfl) (fun _=>hgd) rfl (fun w hw=>?_) ?_
       ·have hw2:=hlb.gr (hw (by decide))
        have q0:=hw2.lt
        have q1:=(hw2.cel.2 0 _ rfl).1
        have q2:=(hw2.cel.2 1 _ rfl).1
        have q3:=(hw2.cel.2 2 _ rfl).1
        have q4:=(hw2.cel.2 3 _ rfl).1
        simp [execOp,go_sem,q0,q1,q2,q3,q4]
       simp only [Act.put,zI,zS,zZ]
       clear y0 y1 y2 y3 y4 u1 u2 u3 u4
       refine still_both (i:=5) (j:=9) (by as_aux_lemma=>kernel_rfl) (by rfl) (by rfl) (fun R hR=>?_) (fun R hR=>?_)
       ·simp only [zG,zH,zK]
        go_wp2_with (go_at_call 69;(with_reducible refine (HL1.out _).mono ?_);rintro e w8 ⟨rfl,hg8⟩)
        have hg9:=hgd.trans hg8
        refine only_normal (hR _ _ (Keep.step (fun h=>h.trans hg8)) ?_)
        clear hR R
        simp only [Act.put,zI,zS,zZ]
        refine still_pure 6 (v:=.tuple #[.agg ll.toArray,.bool ok]) rfl (by as_aux_lemma=>kernel_rfl) (by as_aux_lemma=>kernel_rfl) (by as_aux_lemma=>kernel_rfl) (fun _=>hg9) rfl (fun w hw=>?_) ?_
        ·simp [execOp,go_sem] <;> (intros;omega)
        simp only [Act.put,zI,zS,zZ]
        refine still_pure 7 (v:=.agg ll.toArray) rfl (by as_aux_lemma=>kernel_rfl) (by as_aux_lemma=>kernel_rfl) (by as_aux_lemma=>kernel_rfl) (fun _=>hg9) rfl (fun w hw=>?_) ?_
        ·simp [execOp,go_sem] <;> (intros;omega)
        simp only [Act.put,zI,zS,zZ]
        refine still_pure 8 (v:=.bool ok) rfl (by as_aux_lemma=>kernel_rfl) (by as_aux_lemma=>kernel_rfl) (by as_aux_lemma=>kernel_rfl) (fun _=>hg9) rfl (fun w hw=>?_) ?_
        ·simp [execOp,go_sem] <;> (intros;omega)
        simp only [Act.put,zI,zS,zZ]
        refine still_next (j:=9) (by as_aux_lemma=>kernel_rfl) (by rfl) (fun R hR=>?_)
        (try simp only [zG,zH,zK])
        go_wp2_with fail
        refine only_normal (hR _ _ (Keep.step (fun h=>h.alloc _)) ?_)
        clear hR R
        simp only [Act.put,zI,zS,zZ]
        have st8:Sem.run Tryz.prog (storeCells ⟨w8.heap.size,0,none⟩ ll 0) (w8.alloc (.cells #[.int .i64 0,.int .i64 0,.int .i64 0,.string ⟨#[]⟩,.int .i64 0,.int .i64 0,.int .i64 0,.int .i64 0] 30))=.ok () (w8.alloc (.cells ll.toArray 30)):=st_new w8 _ _ ll (by rw [hl8.out];exact infoEvt1) (by rw [hl8.out];rfl) hone8
        refine still_next (j:=10) (by as_aux_lemma=>kernel_rfl) (by rfl) (fun R hR=>?_)
        (try simp only [zG,zH,zK])
        go_wp2_with fail
        refine only_normal (hR _ _ (Keep.step (fun _=>hg9.alloc _)) ?_)
        clear hR R
        simp only [Act.put,zI,zS,zZ]
        refine still_next (j:=11) (by as_aux_lemma=>kernel_rfl) (by rfl) (fun R hR=>?_)
        (try simp only [zG,zH,zK])
        go_wp2_with fail
        refine only_normal (hR _ _ (Keep.step (fun h=>h)) ?_)
        clear hR R
        simp only [Act.put,zI,zS,zZ]
        refine still_done (by as_aux_lemma=>kernel_rfl) ?_
        (try simp only [zG,zH,zK,zI,zS,zZ])
        go_wp2_with fail
        go_meet
        exact⟨w8.heap.size,rfl,rfl,hg9.alloc _,Blk.new w8 ll 30,hg9.size⟩
       ·simp only [zG,zH,zK]
        go_wp2_with fail
        have hgA:=hgd.alloc (.cells #[.int .i64 0,.int .i64 0,.int .i64 0,.string ⟨#[]⟩,.int .i64 0,.int .i64 0,.int .i64 0,.int .i64 0] 30)
        refine only_normal (hR _ _ (Keep.step (fun h=>h.alloc _)) ?_)
        clear hR R
        simp only [Act.put,zI,zS,zZ]
        refine still_next (j:=5) (by as_aux_lemma=>kernel_rfl) (by rfl) (fun R hR=>?_)
        (try simp only [zG,zH,zK])
        go_wp2_with (go_at_call 69;(with_reducible refine (HL1.out _).mono ?_);rintro e w8 ⟨rfl,hg8⟩)
        have hg9:=hgA.trans hg8
        have hEz:=(Blk.new Wd [.int .i64 0,.int .i64 0,.int .i64 0,.string ⟨#[]⟩,.int .i64 0,.int .i64 0,.int .i64 0,.int .i64 0] 30).gr hg8
        refine only_normal (hR _ _ (Keep.step (fun h=>h.trans hg8)) ?_)
        clear hR R
        simp only [Act.put,zI,zS,zZ]
        refine still_pure 6 (v:=.tuple #[.agg ll.toArray,.bool ok]) rfl (by as_aux_lemma=>kernel_rfl) (by as_aux_lemma=>kernel_rfl) (by as_aux_lemma=>kernel_rfl) (fun _=>hg9) rfl (fun w hw=>?_) ?_
        ·simp [execOp,go_sem] <;> (intros;omega)
        simp only [Act.put,zI,zS,zZ]
        refine still_pure 7 (v:=.agg ll.toArray) rfl (by as_aux_lemma=>kernel_rfl) (by as_aux_lemma=>kernel_rfl) (by as_aux_lemma=>kernel_rfl) (fun _=>hg9) rfl (fun w hw=>?_) ?_
        ·simp [execOp,go_sem] <;> (intros;omega)
        simp only [Act.put,zI,zS,zZ]
        refine still_pure 8 (v:=.bool ok) rfl (by as_aux_lemma=>kernel_rfl) (by as_aux_lemma=>kernel_rfl) (by as_aux_lemma=>kernel_rfl) (fun _=>hg9) rfl (fun w hw=>?_) ?_
        ·simp [execOp,go_sem] <;> (intros;omega)
        simp only [Act.put,zI,zS,zZ]
        have st8:=st_blk (P:=Tryz.prog) hEz (l:=ll) (by rw [hl8.out];rfl) hone8
        have hlt:=hEz.lt
        refine still_next (j:=10) (by as_aux_lemma=>kernel_rfl) (by rfl) (fun R hR=>?_)
        (try simp only [zG,zH,zK])
        go_wp2_with fail
        refine only_normal (hR _ _ (Keep.step (fun _=>hg9.setRow hgd.size ll.toArray)) ?_)
        clear hR R
        simp only [Act.put,zI,zS,zZ]
        refine still_next (j:=11) (by as_aux_lemma=>kernel_rfl) (by rfl) (fun R hR=>?_)
        (try simp only [zG,zH,zK])
        go_wp2_with fail
        refine only_normal (hR _ _ (Keep.step (fun h=>h)) ?_)
        clear hR R
        simp only [Act.put,zI,zS,zZ]
        refine still_done (by as_aux_lemma=>kernel_rfl) ?_
        (try simp only [zG,zH,zK,zI,zS,zZ])
        go_wp2_with fail
        go_meet
        exact⟨Wd.heap.size,rfl,rfl,hg9.setRow hgd.size ll.toArray,hEz.setRow ll,hgd.size⟩
      case rest=>
      obtain⟨EB,rfl,rfl,hgE,hbE,hEBr⟩:=hcut
      have hI16:=hI.by hgE
      have hEB:=hbE.lt
      clear y0 y1 y2 y3 y4 u1 u2 u3 u4 hI hlb ct HL1
      clear aE8 zE8 hk80 hl8k
      replace hl8:=hl8.out
      obtain⟨W16,hW16⟩:∃ W16,wc=W16:=⟨_,rfl⟩
      rw [hW16] at hI16 hbE hgE hEB ⊢
      clear hW16
      have hr16:=hr.gr hI16.gr
      have hgw16:=hgw.trans hI16.gr
      cases ok with
      | false=>
       have hPl:Hid (PlR b s.data.toList ⟨⟨#[]⟩,0,false,[]⟩ 3):=Lib.hid (PlR.none fun l hl=>by have:=hj1.out l hl;cases this)
       clear hj1 hj2 hI16 hbE
       have r0:=hr16.lt
       obtain⟨r1,v1⟩:=hr16.cel.2 0 _ rfl
       obtain⟨r2,v2⟩:=hr16.cel.2 1 _ rfl
       obtain⟨r3,v3⟩:=hr16.cel.2 2 _ rfl
       obtain⟨r4,v4⟩:=hr16.cel.2 3 _ rfl
       go_wp2
       simp [-Bool.exists_bool,-Bool.forall_bool,bodyPost,results,Tryz.results27,go_sem,r0,r1,r2,r3,r4]
       refine⟨⟨⟨#[]⟩,0,false,[]⟩,.slice none 0 0,3,⟨rfl,rfl⟩,?_,⟨EvsR.nil _,by decide,fun e he=>(by cases he),by decide⟩,fun a n c e=>(by injection e;omega),hPl.out⟩
       repeat (first | (with_reducible exact hgw16) | (with_reducible refine Gr.setCell ?_ (by simp;omega) _))
      | true=>
       have hg12:=(Gr.refl W16).alloc (.cells ll.toArray 30)
       have hI12:=hI16.by hg12
       have hrow6:=hI12.row
       have hneL:=own_ne hrow6 LB (by omega)
       have hrd:=Rd.new W16 ll.toArray 30 1 8 1 (by simpa using hl8)
       have hWz:LB+1≤(W16.alloc (.cells ll.toArray 30)).heap.size:=hI12.lb.lt
       have hal2:acc.length≤2000001:=by omega
       obtain⟨ic,hic,hic0,hic1,hic2⟩:=info_parts infoEvz
       replace hneL:=Lib.hid hneL
       have hlb:=hI16.lb
       have y0:=hlb.lt
       obtain⟨y1,u1⟩:=hlb.cel.2 0 _ rfl
       obtain⟨y2,u2⟩:=hlb.cel.2 1 _ rfl
       obtain⟨y3,u3⟩:=hlb.cel.2 2 _ rfl
       obtain⟨y4,u4⟩:=hlb.cel.2 3 _ rfl
       clear hj1 hI16 hlb hr16 hgw16 hg12
       go_upto_region 17 with fail
       go_wp2_with (first
        | (refine wpList_load_row rfl 30 (.tmp 13) rfl EB rfl 30 ll.toArray (0,0) _ hbE Tryz.underlying30 rfl (by rw [List.size_toArray,hl8];exact infoEvt1) ?_)
        | (refine wpList_bs1 rfl 22 30 (.tmp 79) rfl 8 (by as_aux_lemma=>kernel_rfl) (by as_aux_lemma=>kernel_rfl) (by omega) (by omega) ll hl8 rfl ?_)
        | (at_builtin;go_loud (refine wpList_append_rd rfl (.tmp 78) (.tmp 80) 22 rfl (LB+1) 30 ic (.agg #[.int .i64 0,.int .i64 0,.int .i64 0,.string ⟨#[]⟩,.int .i64 0,.int .i64 0,.int .i64 0,.int .i64 0]) 8 72 (by as_aux_lemma=>kernel_rfl) hic hic0 hic1 hic2 rfl (by decide) (.slice ra acc.length rc) acc.length (eflat acc) rfl hrow6 _ 1 ll rfl hrd hone8 ?_ ?_ ?_ ?_);(· unfold maxLen;omega);(· omega);(· exact hWz);intro v9 w9' hown9 hgrow9;obtain⟨p9,c9,rfl⟩:=own_shape hown9;have hlb9:=hI12.lb.grown hgrow9 (fun e=>hneL.out e);have x9:=hlb9.lt;obtain⟨x3,xf3⟩:=hlb9.cel.2 3 _ rfl))
       have hIp:=PaI.push hI12 x (by rw [hxl.out];exact hown9) hgrow9
       replace hIp:=Lib.hid hIp
       go_roundw
       case rel=>exact⟨i+1,acc ++ [x],_,by go_num,by simp;omega,by omega,hIp.out,fun e he=>by
        rcases List.mem_append.1 he with he | he
        ·exact hrl.out e he
        ·rw [List.mem_singleton] at he
         rw [he]
         omega,Lib.hid hj2.out⟩
       case measure=>simp [RowKit.intOf];omega
     ·have q1:decide ((i:Int)<(ws.length:Int) - 1)=false:=decide_eq_false (by omega)
      obtain⟨ra,rc,hlv⟩:∃ ra rc,lv=.slice ra acc.length rc:=own_len hI.row
      subst hlv
      have hEl:ElR wr (.slice ra acc.length rc) ⟨tt,b,B1,acc⟩:=⟨hI.evs,by simp only;omega,fun e he=>(by have:=hrl e he;omega),by simp only;omega⟩
      have hend:=Jr.end hJ.out (by rw [hlen.out];omega)
      obtain⟨hPy,hPn⟩:=PlR.of (l0:=⟨tt,b,B1,acc⟩) rfl hend
      replace hPy:=Lib.hid hPy
      replace hPn:=Lib.hid hPn
      obtain⟨x,E2,hx1,hx2,HFc⟩:=HF.out ⟨tt,b,B1,acc⟩ (.slice ra acc.length rc) wr hEl
      unfold El.val at HFc
      simp only at HFc
      replace HFc:=Lib.hid HFc
      have hlb:=hI.lb
      have hneR:=own_ne hI.row R (by omega)
      have hcapE:=own_capE hI.row
      have hgT:=hI.gr
      have hEvs:=hEl.evs
      have hEt:=hEl.t
      have hEr:=hEl.r
      have hEn:=hEl.n
      simp only at hEvs hEt hEr hEn
      replace hneR:=Lib.hid hneR
      replace hcapE:=Lib.hid hcapE
      replace hEr:=Lib.hid hEr
      clear hI hJ HF hend hEl hrl
      have y0:=hlb.lt
      obtain⟨y1,u1⟩:=hlb.cel.2 0 _ rfl
      obtain⟨y2,u2⟩:=hlb.cel.2 1 _ rfl
      obtain⟨y3,u3⟩:=hlb.cel.2 2 _ rfl
      obtain⟨y4,u4⟩:=hlb.cel.2 3 _ rfl
      go_upto_region 19 with (go_at_call 25;(with_reducible refine HFc.out.mono ?_);rintro e w19 ⟨rfl,hg19⟩)
      have hlb19:=hlb.gr hg19
      have hr19:=(hr.gr hgT).gr hg19
      have hgw19:=(hgw.trans hgT).trans hg19
      have hEv19:=Rd.gr hg19 hEvs
      clear y0 y1 y2 y3 y4 u1 u2 u3 u4 hlb hgT HFc hEvs hg19
      have hbx:(x.toList == s.toList)=decide (x.data.toList=s.data.toList):=by rw [bl_iff,ByteArray.toList_eq s]
      by_cases hE2:E2=0
      ·have qE:(E2 != 0)=false:=by simp [hE2]
       by_cases hxs:x.data.toList=s.data.toList
       ·have qx:(x.toList == s.toList)=true:=by rw [hbx];exact decide_eq_true hxs
        have hPl:Hid (PlR b s.data.toList ⟨tt,b,B1,acc⟩ 0):=Lib.hid (hPy.out ⟨hx1.1 hE2,by rw [← hx2 hE2];exact hxs⟩)
        replace hE2:=Lib.hid hE2
        clear hPy hPn hbx hxs hx1 hx2
        have r0:=hr19.lt
        obtain⟨r1,v1⟩:=hr19.cel.2 0 _ rfl
        obtain⟨r2,v2⟩:=hr19.cel.2 1 _ rfl
        obtain⟨r3,v3⟩:=hr19.cel.2 2 _ rfl
        obtain⟨r4,v4⟩:=hr19.cel.2 3 _ rfl
        have y0:=hlb19.lt
        obtain⟨y1,u1⟩:=hlb19.cel.2 0 _ rfl
        obtain⟨y2,u2⟩:=hlb19.cel.2 1 _ rfl
        obtain⟨y3,u3⟩:=hlb19.cel.2 2 _ rfl
        obtain⟨y4,u4⟩:=hlb19.cel.2 3 _ rfl
        go_wp2
        simp [-Bool.exists_bool,-Bool.forall_bool,bodyPost,results,Tryz.results27,go_sem,r0,r1,r2,r3,r4]
        refine⟨⟨tt,b,B1,acc⟩,.slice ra acc.length rc,0,⟨rfl,rfl⟩,?_,⟨?_,hEt,hEr.out,hEn⟩,hcapE.out,hPl.out⟩
        ·repeat (first | (with_reducible exact hgw19) | (with_reducible refine Gr.setCell ?_ (by simp;omega) _))
        ·exact Rd.off (p:=⟨R,3,none⟩) (Rd.off (p:=⟨R,2,none⟩) (Rd.off (p:=⟨R,1,none⟩) (Rd.off (p:=⟨R,0,none⟩) hEv19 hneR.out _) hneR.out _) hneR.out _) hneR.out _
       ·have qx:(x.toList == s.toList)=false:=by rw [hbx];exact decide_eq_false hxs
        have hPl:Hid (PlR b s.data.toList ⟨⟨#[]⟩,0,false,[]⟩ 3):=Lib.hid (hPn.out fun h=>hxs (by rw [hx2 hE2];exact h.2))
        replace hE2:=Lib.hid hE2
        clear hPy hPn hbx hxs hx1 hx2
        have r0:=hr19.lt
        obtain⟨r1,v1⟩:=hr19.cel.2 0 _ rfl
        obtain⟨r2,v2⟩:=hr19.cel.2 1 _ rfl
        obtain⟨r3,v3⟩:=hr19.cel.2 2 _ rfl
        obtain⟨r4,v4⟩:=hr19.cel.2 3 _ rfl
        go_wp2
        simp [-Bool.exists_bool,-Bool.forall_bool,bodyPost,results,Tryz.results27,go_sem,r0,r1,r2,r3,r4]
        refine⟨⟨⟨#[]⟩,0,false,[]⟩,.slice none 0 0,3,⟨rfl,rfl⟩,?_,⟨EvsR.nil _,by decide,fun e he=>(by cases he),by decide⟩,fun a n c e=>(by injection e;omega),hPl.out⟩
        repeat (first | (with_reducible exact hgw19) | (with_reducible refine Gr.setCell ?_ (by simp;omega) _))
      ·have qE:(E2 != 0)=true:=by simp [hE2]
       have hPl:Hid (PlR b s.data.toList ⟨⟨#[]⟩,0,false,[]⟩ 3):=Lib.hid (hPn.out fun h=>hE2 (hx1.2 h.1))
       clear hPy hPn hbx hx1 hx2
       have r0:=hr19.lt
       obtain⟨r1,v1⟩:=hr19.cel.2 0 _ rfl
       obtain⟨r2,v2⟩:=hr19.cel.2 1 _ rfl
       obtain⟨r3,v3⟩:=hr19.cel.2 2 _ rfl
       obtain⟨r4,v4⟩:=hr19.cel.2 3 _ rfl
       go_wp2
       simp [-Bool.exists_bool,-Bool.forall_bool,bodyPost,results,Tryz.results27,go_sem,r0,r1,r2,r3,r4]
       refine⟨⟨⟨#[]⟩,0,false,[]⟩,.slice none 0 0,3,⟨rfl,rfl⟩,?_,⟨EvsR.nil _,by decide,fun e he=>(by cases he),by decide⟩,fun a n c e=>(by injection e;omega),hPl.out⟩
       repeat (first | (with_reducible exact hgw19) | (with_reducible refine Gr.setCell ?_ (by simp;omega) _))
   ·have q0:(E != 0)=true:=by simp [hE]
    have hPl:Hid (PlR b s.data.toList ⟨⟨#[]⟩,0,false,[]⟩ 3):=Lib.hid (PlR.none fun l hl=>by
     have h1:=isE_ok hl
     rw [(hJ0.out l hl).2.1,hE2 hE] at h1
     cases h1)
    clear hJ0
    have r0:=hr7.lt
    obtain⟨r1,v1⟩:=hr7.cel.2 0 _ rfl
    obtain⟨r2,v2⟩:=hr7.cel.2 1 _ rfl
    obtain⟨r3,v3⟩:=hr7.cel.2 2 _ rfl
    obtain⟨r4,v4⟩:=hr7.cel.2 3 _ rfl
    go_wp2_with (go_at_call 38;(with_reducible refine (HDc.out _).mono ?_);rintro e w8 ⟨rfl,rfl⟩)
    simp [-Bool.exists_bool,-Bool.forall_bool,bodyPost,results,Tryz.results27,go_sem,r0,r1,r2,r3,r4]
    refine⟨⟨⟨#[]⟩,0,false,[]⟩,.slice none 0 0,3,⟨rfl,rfl⟩,?_,⟨EvsR.nil _,by decide,fun e he=>(by cases he),by decide⟩,fun a n c e=>(by injection e;omega),hPl.out⟩
    repeat (first | (with_reducible exact hgw7) | (with_reducible refine Gr.setCell ?_ (by simp;omega) _))
end Go.Proofs.YtgbiodnfpbhjiaaGreatDoor
