/-
  Contracts of two and Format of the reference.
  Conditions: the arguments are integers of their kinds.
-/
import Derived.Test.YtgbiodnfpbhjiaaGreatDoorWalk19H
import Derived.Laws.Runes
import Derived.Laws.Concat
import Derived.Test.YtgbiodnfpbhjiaaGreatDoorWalkXc
import Derived.Test.YtgbiodnfpbhjiaaGreatDoorWalkBd
import Derived.Outline
import Derived.Test.YtgbiodnfpbhjiaaGreatDoorLawTracks
import Derived.Test.YtgbiodnfpbhjiaaGreatDoorClip
import Derived.Deep.DeepCutAuto
import Derived.Test.YtgbiodnfpbhjiaaGreatDoorMathFp
import Derived.Test.YtgbiodnfpbhjiaaGreatDoorWalkEe
import Derived.Laws.OwnMore
import Derived.Test.YtgbiodnfpbhjiaaGreatDoorKit
import Derived.Deep.CutBlock
import Derived.Test.YtgbiodnfpbhjiaaGreatDoorWalkTm
import Derived.Test.YtgbiodnfpbhjiaaGreatDoorWalkEg
namespace Go.Proofs.YtgbiodnfpbhjiaaGreatDoor.C19
open Go.RowKit
set_option linter.unusedSimpArgs false
set_option linter.unusedVariables false
def dig2 (n:Int):ByteArray:=⟨#[UInt8.ofNat (48+n / 10).toNat,UInt8.ofNat (48+n % 10).toNat]⟩
theorem encode_digit (x:Int) (h0:0≤x) (h1:x<128):Utf8.encode x=⟨#[UInt8.ofNat x.toNat]⟩:=by
 have hv:Utf8.valid x=true:=by unfold Utf8.valid;simp;omega
 unfold Utf8.encode
 have:x.toNat<128:=by omega
 simp [hv,this]
theorem two_any (n:Int) (w:World) (h0:0≤n) (h1:n<100) :
  Calls Tryz.prog 137 #[.int .i64 n] w fun e w'=>e=.returned (.string (dig2 n))∧w=w':=by
 have e1:=encode_digit (48+n / 10) (by omega) (by omega)
 have e2:=encode_digit (48+n % 10) (by omega) (by omega)
 go_enter Tryz.func137,Tryz.ntmps137
 go_wp2
 go_ret
 exact⟨rfl,rfl⟩
theorem dig2_size (n:Int):(dig2 n).size=2:=rfl
theorem fmt_cat (h m s f:Int) (d:Bool):dig2 h ++ ⟨#[58]⟩ ++ dig2 m ++ ⟨#[58]⟩ ++ dig2 s ++ (if d then ⟨#[59]⟩ else ⟨#[58]⟩) ++ dig2 f=fmtS h m s f d:=by
 cases d <;> simp [dig2,fmtS,fmtL,ByteArray.mk_append_mk]
set_option maxHeartbeats 1000000 in
theorem rformat_yes (h m s f b V:Int) (d:Bool) (w:World) (h1:0≤h∧h<60) (h2:0≤m∧m<60) (h3:0≤s∧s<60) (h4:0≤f∧f<60)
  (H:∀ w,Calls Tryz.prog 136 #[.agg #[.int .i64 h,.int .i64 m,.int .i64 s,.int .i64 f,.int .i64 b,.bool d]] w fun e w'=>e=.returned (.tuple #[.int .i64 V,.int .i64 0])∧Gr w w') :
  Calls Tryz.prog 105 #[.agg #[.int .i64 h,.int .i64 m,.int .i64 s,.int .i64 f,.int .i64 b,.bool d]] w fun e w'=>e=.returned (.tuple #[.string (fmtS h m s f d),.int .i64 0])∧Gr w w':=by
 have HN:=Lib.hid H
 have HC:=Lib.hid (fmt_cat h m s f d)
 have z1:=dig2_size h
 have z2:=dig2_size m
 have z3:=dig2_size s
 have z4:=dig2_size f
 clear H
 have T1:=Lib.hid (fun w=>two_any h w (by omega) (by omega))
 have T2:=Lib.hid (fun w=>two_any m w (by omega) (by omega))
 have T3:=Lib.hid (fun w=>two_any s w (by omega) (by omega))
 have T4:=Lib.hid (fun w=>two_any f w (by omega) (by omega))
 generalize dig2 h=D1 at *
 generalize dig2 m=D2 at *
 generalize dig2 s=D3 at *
 generalize dig2 f=D4 at *
 cases d
 all_goals
  go_enter Tryz.func105,Tryz.ntmps105
  go_wp2_with (go_at_call 136;refine (HN.out _).mono ?_;rintro e w1 ⟨rfl,hg1⟩;obtain⟨hc1,hf1⟩:=hg1.cells;have hz1:=hg1.size;(try simp at hz1);(try have hl1_0_0:w.heap.size<w1.heap.size:=by omega);(try have hm1_0_0:w.heap.size≤w1.heap.size:=by omega);(try have hl1_0_1:w.heap.size+1<w1.heap.size:=by omega);(try have hl1_0_2:w.heap.size+2<w1.heap.size:=by omega))
  refine wp_region_gr (by kernel_rfl) (by kernel_rfl) (fun hq1 hq2=>?_)
  repeat (first | go_big_quiet_skip | (go_big_quiet_want;go_big_quiet_op;first | go_big_quiet_on | (apply Exists.intro;refine⟨fun _=>?_,?_⟩;(· ((go_at_call 137;first | (with_reducible exact gr_call_same (T1.out _)) | (with_reducible exact gr_call_same (T2.out _)) | (with_reducible exact gr_call_same (T3.out _)) | (with_reducible exact gr_call_same (T4.out _)))));go_big_quiet_on)))
  refine wpQuiet_nil ?_
  clear hq1 hq2
  rintro w2 ⟨⟨_,hg2⟩,rfl⟩
  obtain⟨hc2,hf2⟩:=hg2.cells
  have hz2:=hg2.size
  (try simp at hz2);(try have hl2_0_0:w.heap.size<w2.heap.size:=by omega);(try have hm2_0_0:w.heap.size≤w2.heap.size:=by omega);(try have hl2_0_1:w.heap.size+1<w2.heap.size:=by omega);(try have hl2_0_2:w.heap.size+2<w2.heap.size:=by omega);(try have hl2_1_0:w1.heap.size<w2.heap.size:=by omega);(try have hm2_1_0:w1.heap.size≤w2.heap.size:=by omega);(try have hl2_1_1:w1.heap.size+1<w2.heap.size:=by omega);(try have hl2_1_2:w1.heap.size+2<w2.heap.size:=by omega)
  go_wp2
  go_ret2
  exact⟨by rw [← HC.out];rfl,(by repeat (first | refine Gr.setCell ?_ (by first | omega | (simp;done) | (simp;omega)) _ | refine Gr.alloc ?_ _ | refine Gr.drew ?_ | refine Gr.drewN ?_ _ | with_reducible assumption | with_reducible exact Gr.refl _ | refine Gr.trans ?_ (by with_reducible assumption)))⟩
theorem rformat_no (h m s f b:Int) (d:Bool) (E:Int) (w:World) (hE:E=1∨E=2)
  (H:∀ w,Calls Tryz.prog 136 #[.agg #[.int .i64 h,.int .i64 m,.int .i64 s,.int .i64 f,.int .i64 b,.bool d]] w fun e w'=>e=.returned (.tuple #[.int .i64 0,.int .i64 E])∧Gr w w') :
  Calls Tryz.prog 105 #[.agg #[.int .i64 h,.int .i64 m,.int .i64 s,.int .i64 f,.int .i64 b,.bool d]] w fun e w'=>e=.returned (.tuple #[.string ByteArray.empty,.int .i64 E])∧Gr w w':=by
 have HN:=Lib.hid H
 clear H
 rcases hE with rfl | rfl
 all_goals
  go_enter Tryz.func105,Tryz.ntmps105
  go_wp2_with (go_at_call 136;refine (HN.out _).mono ?_;rintro e w1 ⟨rfl,hg1⟩;obtain⟨hc1,hf1⟩:=hg1.cells;have hz1:=hg1.size;(try simp at hz1);(try have hl1_0_0:w.heap.size<w1.heap.size:=by omega);(try have hm1_0_0:w.heap.size≤w1.heap.size:=by omega);(try have hl1_0_1:w.heap.size+1<w1.heap.size:=by omega);(try have hl1_0_2:w.heap.size+2<w1.heap.size:=by omega))
  simp [bodyPost,results,Tryz.results105,go_sem]
  exact⟨rfl,(by repeat (first | refine Gr.setCell ?_ (by first | omega | (simp;done) | (simp;omega)) _ | refine Gr.alloc ?_ _ | refine Gr.drew ?_ | refine Gr.drewN ?_ _ | with_reducible assumption | with_reducible exact Gr.refl _ | refine Gr.trans ?_ (by with_reducible assumption)))⟩
theorem rformat_any (h m s f b:Int) (d:Bool) (w:World) :
  Calls Tryz.prog 105 #[.agg #[.int .i64 h,.int .i64 m,.int .i64 s,.int .i64 f,.int .i64 b,.bool d]] w fun e w'=>e=.returned (.tuple #[.string (fmV h m s f b d),.int .i64 (nmE h m s f b d)])∧Gr w w':=by
 have H:=fun w=>rnumber_any h m s f b d w
 unfold fmV
 rcases nmE_cases h m s f b d with ⟨e0,ho,hi,hm,e1⟩ | ⟨e0,e1⟩
 ·obtain⟨p1,p2,p3,p4⟩:=inN_out hi
  have hb:=okB_bounds ho
  rw [e0] at H ⊢
  exact rformat_yes h m s f b _ d w (by omega) (by omega) (by omega) (by omega) H
 ·rw [e1] at H
  rw [if_neg (by omega)]
  exact rformat_no h m s f b d _ w e0 H
end Go.Proofs.YtgbiodnfpbhjiaaGreatDoor.C19

namespace Go.Proofs.YtgbiodnfpbhjiaaGreatDoor
open Go.RowKit Go.Lib
set_option linter.unusedSimpArgs false
set_option linter.unusedVariables false
theorem b8_enc (x:Int) (h0:0≤x) (h1:x<128):Utf8.encode x=⟨#[b8 x]⟩:=C19.encode_digit x h0 h1
theorem rthree_any (n:Int) (w:World) (h0:0≤n) (h1:n<1000) :
  Calls Tryz.prog 64 #[.int .i64 n] w fun e w'=>e=.returned (.string ⟨(t3 n).toArray⟩)∧w=w':=by
 have e1:=b8_enc (48+n / 100 % 10) (by omega) (by omega)
 have e2:=b8_enc (48+n / 10 % 10) (by omega) (by omega)
 have e3:=b8_enc (48+n % 10) (by omega) (by omega)
 have hT:Hid ((⟨#[b8 (48+n / 100 % 10)]⟩:ByteArray) ++ ⟨#[b8 (48+n / 10 % 10)]⟩ ++ ⟨#[b8 (48+n % 10)]⟩=⟨(t3 n).toArray⟩):=Lib.hid (by
  rw [show n / 100 % 10=n / 100 by omega]
  unfold t3
  simp [ByteArray.mk_append_mk])
 generalize (⟨(t3 n).toArray⟩:ByteArray)=T at *
 generalize b8 (48+n / 100 % 10)=B1 at *
 generalize b8 (48+n / 10 % 10)=B2 at *
 generalize b8 (48+n % 10)=B3 at *
 go_enter Tryz.func64,Tryz.ntmps64
 go_wp2
 go_ret
 exact⟨by rw [← hT.out];rfl,rfl⟩
set_option maxHeartbeats 1000000 in
theorem label_core30 (x1 x2 x3 x4 n:Int) (S title:ByteArray) (b:Int) (d:Bool) (lv:Value) (w:World)
  (HL:∀ w',Calls Tryz.prog 104 #[.int .i64 n,.int .i64 b,.bool d] w' fun e w''=>e=.returned (.tuple #[.agg #[.int .i64 x1,.int .i64 x2,.int .i64 x3,.int .i64 x4,.int .i64 b,.bool d],.int .i64 0])∧Gr w' w'')
  (HF:∀ w',Calls Tryz.prog 105 #[.agg #[.int .i64 x1,.int .i64 x2,.int .i64 x3,.int .i64 x4,.int .i64 b,.bool d]] w' fun e w''=>e=.returned (.tuple #[.string S,.int .i64 0])∧Gr w' w'') :
  Calls Tryz.prog 65 #[.int .i64 n,.agg #[.string title,.int .i64 b,.bool d,lv]] w fun e w'=>e=.returned (.string S)∧Gr w w':=by
 replace HL:=Lib.hid HL
 replace HF:=Lib.hid HF
 go_enter Tryz.func65,Tryz.ntmps65
 go_wp2_with (first
  | (go_at_call 104;refine (HL.out _).mono ?_;rintro e w1 ⟨rfl,hg1⟩;obtain⟨hc1,hf1⟩:=hg1.cells;have hz1:=hg1.size;(try simp at hz1);(try have hl1_0_0:w.heap.size<w1.heap.size:=by omega);(try have hm1_0_0:w.heap.size≤w1.heap.size:=by omega);(try have hl1_0_1:w.heap.size+1<w1.heap.size:=by omega);(try have hl1_0_2:w.heap.size+2<w1.heap.size:=by omega))
  | (go_at_call 105;refine (HF.out _).mono ?_;rintro e w2 ⟨rfl,hg2⟩;obtain⟨hc2,hf2⟩:=hg2.cells;have hz2:=hg2.size;(try simp at hz2);(try have hl2_0_0:w.heap.size<w2.heap.size:=by omega);(try have hm2_0_0:w.heap.size≤w2.heap.size:=by omega);(try have hl2_0_1:w.heap.size+1<w2.heap.size:=by omega);(try have hl2_0_2:w.heap.size+2<w2.heap.size:=by omega);(try have hl2_1_0:w1.heap.size<w2.heap.size:=by omega);(try have hm2_1_0:w1.heap.size≤w2.heap.size:=by omega);(try have hl2_1_1:w1.heap.size+1<w2.heap.size:=by omega);(try have hl2_1_2:w1.heap.size+2<w2.heap.size:=by omega)))
 go_ret
 exact⟨rfl,(by repeat (first | refine Gr.setCell ?_ (by first | omega | (simp;done) | (simp;omega)) _ | refine Gr.alloc ?_ _ | refine Gr.drew ?_ | refine Gr.drewN ?_ _ | with_reducible assumption | with_reducible exact Gr.refl _ | refine Gr.trans ?_ (by with_reducible assumption)))⟩
theorem rlabel30_any (n:Int) (title:ByteArray) (b:Int) (d:Bool) (lv:Value) (w:World) (ho:C19.okB b d=true) (h0:0≤n) (h1:n<C19.dayN b d) :
  Calls Tryz.prog 65 #[.int .i64 n,.agg #[.string title,.int .i64 b,.bool d,lv]] w fun e w'=>e=.returned (.string (labS n b d))∧Gr w w':=by
 have hd:=day_bounds ho
 refine label_core30 (C19.lm n b d / 60) (C19.lm n b d % 60) (C19.lf n b d / b) (C19.lf n b d % b) n (labS n b d) title b d lv w (fun w'=>C19.rlabel_any n b d w' ⟨by omega,by omega⟩ ho) (fun w'=>?_)
 have:=C19.rformat_any (C19.lm n b d / 60) (C19.lm n b d % 60) (C19.lf n b d / b) (C19.lf n b d % b) b d w'
 unfold C19.fmV at this
 rw [lab_ok ho h0 h1,if_pos rfl] at this
 exact this
end Go.Proofs.YtgbiodnfpbhjiaaGreatDoor

namespace Go.Proofs.YtgbiodnfpbhjiaaGreatDoor
open Go.RowKit Go.Lib
set_option linter.unusedSimpArgs false
set_option linter.unusedVariables false
def toBa (l:List UInt8):ByteArray:=⟨l.toArray⟩
end Go.Proofs.YtgbiodnfpbhjiaaGreatDoor

namespace Go.Proofs.YtgbiodnfpbhjiaaGreatDoor
open Go.RowKit Go.Lib
set_option linter.unusedSimpArgs false
set_option linter.unusedVariables false
theorem cell_other {w:World} {b o:Nat} {v:Value} {p:Addr} (h:w.cell? ⟨b,o,none⟩=some v) (hb:b<w.heap.size) (hne:p.block≠b) (u:Value):(w.setCell p u).cell? ⟨b,o,none⟩=some v:=
 (World.cell?_of_block (a:=⟨b,o,none⟩) ((grown_setCell w p u).block b hb (fun e=>by injection e with e;exact hne e.symm))).trans h
def reelW (s:ByteArray):ByteArray:=if s.data.toList=[66,76] then ⟨#[]⟩ else s
end Go.Proofs.YtgbiodnfpbhjiaaGreatDoor

namespace Go.Proofs.YtgbiodnfpbhjiaaGreatDoor
open Go.RowKit Go.Lib
set_option linter.unusedSimpArgs false
set_option linter.unusedVariables false
theorem toBa_list (l:List UInt8):(toBa l).data.toList=l:=by unfold toBa;simp
theorem toBa_of (s:ByteArray):toBa s.data.toList=s:=by
 apply ba_ext
 rw [toBa_list]
theorem reelW_of {x:Ev} (h:x.reel.size=0∨nmB x.reel=true):reelW (toBa (reelB x))=x.reel:=by
 unfold reelW reelB
 rw [toBa_list]
 by_cases hz:x.reel.size=0
 ·rw [if_pos hz,if_pos rfl]
  apply ba_ext
  have:x.reel.data.toList.length=0:=by rw [ba_len];exact hz
  rw [List.eq_nil_of_length_eq_zero this]
 ·rw [if_neg hz]
  have hn:nmB x.reel=true:=by
   rcases h with h | h
   ·exact absurd h hz
   ·exact h
  have hne:x.reel.data.toList≠[66,76]:=by
   intro e
   unfold nmB at hn
   simp only [Bool.and_eq_true] at hn
   have:=List.all_eq_true.1 hn.2 66 (by rw [e];simp)
   exact absurd this (by decide)
  rw [if_neg hne,toBa_of]
end Go.Proofs.YtgbiodnfpbhjiaaGreatDoor

namespace Go.Proofs.YtgbiodnfpbhjiaaGreatDoor
open Go.RowKit Go.Lib
set_option linter.unusedSimpArgs false
set_option linter.unusedVariables false
def Jr (b:Int) (s:List UInt8) (title:ByteArray) (drop:Bool) (acc:List Ev):Prop:=∀ l,IsE l b s→l.title=title∧l.drop=drop∧∃ more,l.evs=acc ++ more
theorem isE_rows {l:El} {b:Int} {s:List UInt8} (h:IsE l b s):dvG 10 [] s=ttlB l.title :: fcmB l.drop :: (evLs b l.drop 1 l.evs ++ [[]]):=by
 obtain⟨hv,hb,hf⟩:=h
 have:=lines_dv hv
 rw [hf] at this
 rw [this]
 unfold linesB
 rw [hb]
 rfl
theorem Jr.start {b:Int} {s r0 r1:List UInt8} (h0:(dvG 10 [] s)[0]?=some r0) (h1:(dvG 10 [] s)[1]?=some r1):Jr b s ⟨(r0.drop 7).toArray⟩ (decide (r1=fcmB true)) []:=by
 intro l hl
 rw [isE_rows hl] at h0 h1
 have e0:ttlB l.title=r0:=by simpa using h0
 have e1:fcmB l.drop=r1:=by simpa using h1
 refine⟨?_,?_,l.evs,rfl⟩
 ·rw [← e0];unfold ttlB;simp
 ·rw [← e1]
  cases l.drop with
  | true=>exact (decide_eq_true rfl).symm
  | false=>exact (decide_eq_false (by decide)).symm
theorem isE_ok {l:El} {b:Int} {s:List UInt8} (h:IsE l b s):C19.okB b l.drop=true:=by
 obtain⟨hv,hb,hf⟩:=h
 have:=(vEl_parts hv).1
 rwa [hb] at this
theorem Jr.step {b:Int} {s:List UInt8} {title:ByteArray} {drop:Bool} {acc:List Ev} {line:List UInt8} {e:Ev} {ok:Bool} (h:Jr b s title drop acc) (hl:(dvG 10 [] s)[acc.length+2]?=some line) (hk:acc.length+3<(dvG 10 [] s).length) (he:PeB b drop line e ok) :
  (∀ l,IsE l b s→ok=true)∧Jr b s title drop (acc ++ [e]):=by
 have key:∀ l,IsE l b s→ok=true∧l.title=title∧l.drop=drop∧∃ more,l.evs=(acc ++ [e]) ++ more:=by
  intro l hE
  obtain⟨h1,h2,more,h3⟩:=h l hE
  have hr:=isE_rows hE
  have ho:=isE_ok hE
  obtain⟨hv,hb,hf⟩:=hE
  obtain⟨v1,v2,v3,v4⟩:=vEl_parts hv
  rw [hb,h2] at v4
  rw [h2] at hr ho
  have hlen:=congrArg List.length hr
  rw [hr] at hl hk
  simp only [List.length_cons,List.length_append,evLs_length,List.length_nil] at hk
  rw [h3] at v3 v4 hk hl
  cases more with
  | nil=>simp at hk
  | cons x r=>
   obtain⟨m,hm0,hm⟩:=vEvs_split (by omega) v4
   obtain⟨hx,_⟩:=vEvs_cons.1 hm
   rw [List.length_append,List.length_cons] at v3
   have hi:acc.length<(acc ++ x :: r).length:=by simp
   have hg:=evLs_get b drop (acc ++ x :: r) 1 acc.length hi
   have hq:(acc ++ x :: r)[acc.length]=x:=by simp
   rw [hq] at hg
   have hl2:(evLs b drop 1 (acc ++ x :: r) ++ [[]])[acc.length]?=some line:=by
    have:(ttlB l.title :: fcmB drop :: (evLs b drop 1 (acc ++ x :: r) ++ [[]]))[acc.length+2]?=(evLs b drop 1 (acc ++ x :: r) ++ [[]])[acc.length]?:=rfl
    rw [← this];exact hl
   rw [List.getElem?_append_left (by rw [evLs_length];exact hi),hg] at hl2
   injection hl2 with hl2
   obtain⟨e1,e2⟩:=he (1+acc.length) x m ho (by omega) (by omega) hm0 hx hl2
   exact⟨e1,h1,h2,r,by rw [h3,e2];simp⟩
 exact⟨fun l hE=>(key l hE).1,fun l hE=>(key l hE).2⟩
theorem Jr.end {b:Int} {s:List UInt8} {title:ByteArray} {drop:Bool} {acc:List Ev} (h:Jr b s title drop acc) (hk:(dvG 10 [] s).length≤acc.length+3):∀ l,IsE l b s→l=⟨title,b,drop,acc⟩:=by
 intro l hE
 obtain⟨h1,h2,more,h3⟩:=h l hE
 have hr:=isE_rows hE
 have hlen:=congrArg List.length hr
 simp only [List.length_cons,List.length_append,evLs_length,List.length_nil] at hlen
 rw [h3,List.length_append] at hlen
 have:more=[]:=List.eq_nil_of_length_eq_zero (by omega)
 subst this
 rw [List.append_nil] at h3
 obtain⟨t,bb,d,es⟩:=l
 obtain⟨_,hb,_⟩:=hE
 simp only at h1 h2 h3 hb
 rw [h1,h2,h3,hb]
theorem PlR.of {b:Int} {s:List UInt8} {l0:El} (hb:l0.base=b) (h:∀ l,IsE l b s→l=l0) :
  (vEl l0=true∧fmtB l0=s→PlR b s l0 0)∧(¬ (vEl l0=true∧fmtB l0=s)→PlR b s ⟨⟨#[]⟩,0,false,[]⟩ 3):=by
 refine⟨fun hh=>.inl ⟨rfl,⟨hh.1,hb,hh.2⟩,h⟩,fun hh=>.inr ⟨rfl,rfl,fun l' hE=>hh ?_⟩⟩
 have:=h l' hE
 subst this
 exact⟨hE.1,hE.2.2⟩
theorem PlR.none {b:Int} {s:List UInt8} (h:∀ l,¬ IsE l b s):PlR b s ⟨⟨#[]⟩,0,false,[]⟩ 3:=.inr ⟨rfl,rfl,h⟩
end Go.Proofs.YtgbiodnfpbhjiaaGreatDoor

namespace Go.Proofs.YtgbiodnfpbhjiaaGreatDoor
open Go.RowKit Go.Lib
set_option linter.unusedSimpArgs false
set_option linter.unusedVariables false
end Go.Proofs.YtgbiodnfpbhjiaaGreatDoor

namespace Go.Proofs.YtgbiodnfpbhjiaaGreatDoor
open Go.RowKit Go.Lib
set_option linter.unusedSimpArgs false
set_option linter.unusedVariables false
theorem eflat_cons (e:Ev) (es:List Ev):eflat (e :: es)=e.cells ++ eflat es:=rfl
end Go.Proofs.YtgbiodnfpbhjiaaGreatDoor

namespace Go.Proofs.YtgbiodnfpbhjiaaGreatDoor
open Go.RowKit
set_option linter.unusedVariables false
section
variable {P:Program} {ops:Array Oper} {md:Region.Mode} {Q:Exit→Act→World→Prop}
def PureG (P:Program) (ops:Array Oper) (S:World→Prop) (o:Oper) (v:Value) (a:Act):Prop:=
 (Region.wanted o (yielded ops a.tmps)=true∧∀ w,S w→(execOp a.eval o).run P w=.ok (.value v) w)∨(Region.wanted o (yielded ops a.tmps)=false∧v=undef)
theorem PureG.wpOp {S:World→Prop} {i:Nat} {o:Oper} {v:Value} {a:Act} {w:World} {K:Act→World→Prop} (hi:ops[i]?=some o) (h:PureG P ops S o v a) (hw:S w) (hK:K (a.put o.dst v) w):wpOp P ops Q i K a w:=by
 unfold Go.wpOp
 simp only [hi]
 rcases h with ⟨h1,h2⟩ | ⟨h1,rfl⟩
 ·rw [h1]
  simp only [if_true]
  refine .inl ?_
  unfold Oper.wp
  rw [h2 w hw]
  exact hK
 ·rw [h1]
  simpa using hK
theorem PureG.of_same {S:World→Prop} {o:Oper} {v:Value} {a a':Act} (hy:PureG P ops S o v a) (he:execOp a'.eval o=execOp a.eval o)
  (hw:Region.wanted o (yielded ops a'.tmps)=Region.wanted o (yielded ops a.tmps)):PureG P ops S o v a':=by
 unfold PureG at *
 rw [he,hw]
 exact hy
end
open Go.RowKit Go.Lib
set_option linter.unusedSimpArgs false
structure Kp (W:World) (L:Nat) (wr:World):Prop where
 sz:W.heap.size≤wr.heap.size
 at_:∀ b o,b<W.heap.size→¬ (b=L∧o=3)→wr.cell? ⟨b,o,none⟩=W.cell? ⟨b,o,none⟩
theorem Kp.refl (W:World) (L:Nat):Kp W L W:=⟨Nat.le_refl _,fun _ _ _ _=>rfl⟩
theorem Kp.gr {W:World} {L:Nat} {wr wx:World} (h:Kp W L wr) (hg:Gr wr wx):Kp W L wx:=
 ⟨Nat.le_trans h.sz hg.size,fun b o hb hn=>by rw [hg.cells.1 b o (Nat.lt_of_lt_of_le hb h.sz)];exact h.at_ b o hb hn⟩
theorem Kp.grown {W:World} {L g:Nat} {wr wx:World} (h:Kp W L wr) (hg:wr.grownBy wx (some g)) (hb:W.heap.size≤g):Kp W L wx:=by
 refine⟨Nat.le_trans h.sz hg.size,fun b o hb2 hn=>?_⟩
 rw [← h.at_ b o hb2 hn]
 exact World.cell?_of_block (a:=⟨b,o,none⟩) (hg.block b (Nat.lt_of_lt_of_le hb2 h.sz) (by intro e;injection e with e;omega))
theorem Kp.put {W:World} {L:Nat} {wr:World} (h:Kp W L wr) (u:Value):Kp W L (wr.setCell ⟨L,3,none⟩ u):=by
 refine⟨by simpa using h.sz,fun b o hb hn=>?_⟩
 rw [← h.at_ b o hb hn]
 exact World.cell?_setCell_other _ _ _ _ (by intro e;simp only [Addr.mk.injEq] at e;exact hn (by first | exact⟨e.1.symm,e.2.1.symm⟩ | exact⟨e.1,e.2.1⟩))
theorem Kp.rd {W:World} {L:Nat} {wr:World} (h:Kp W L wr) {v:Value} {n:Nat} {xs:List Value} (hr:Rd W v n 1 xs) (hL:∀ u,W.cell? ⟨L,3,none⟩=some u→u∉xs):Rd wr v n 1 xs:=by
 obtain⟨hl,a,cap,rfl,h0⟩:=hr
 refine⟨hl,a,cap,rfl,?_⟩
 rcases h0 with h0 | ⟨b,o,rfl,hb,hc⟩
 ·exact .inl h0
 ·refine .inr ⟨b,o,rfl,Nat.lt_of_lt_of_le hb h.sz,fun j u hu=>?_⟩
  have h1:=hc j u hu
  rw [h.at_ b _ hb fun e=>?_]
  ·exact h1
  ·obtain⟨e1,e2⟩:=e
   subst e1
   rw [e2] at h1
   exact hL u h1 (List.mem_of_getElem? hu)
theorem Kp.trk {W:World} {L:Nat} {wr:World} (h:Kp W L wr) {v:Value} {cs:List CM} (ht:TrR W v cs) {T:TypeId} {p q r s:Value} (hb:Blk W L T [p,q,r,s]) (hs:∀ y:Int,Value.int .i64 y≠s):TrR wr v cs:=by
 refine⟨?_,fun c hc=>h.rd (ht.ch c hc) fun u hu hm=>?_⟩
 ·obtain⟨hl,a,cap,rfl,h0⟩:=ht.rd
  refine⟨hl,a,cap,rfl,?_⟩
  rcases h0 with h0 | ⟨b,o,rfl,hlt,hc⟩
  ·exact .inl h0
  ·cases cs with
   | nil=>exact .inl ⟨rfl,fun e=>by cases e⟩
   | cons c cs=>
    refine .inr ⟨b,o,rfl,Nat.lt_of_lt_of_le hlt h.sz,fun j u hu=>?_⟩
    rw [h.at_ b _ hlt fun e=>?_]
    ·exact hc j u hu
    ·obtain⟨e1,_⟩:=e
     subst e1
     have h1:=hc 21 c.cv rfl
     rw [hb.cell] at h1
     rw [List.getElem?_eq_none (by simp)] at h1
     cases h1
 ·rw [hb.cell] at hu
  have hu:s=u:=by simpa using hu
  subst hu
  unfold intsV at hm
  obtain⟨y,_,hy⟩:=List.mem_map.1 hm
  exact hs y hy
end Go.Proofs.YtgbiodnfpbhjiaaGreatDoor

namespace Go.Proofs.YtgbiodnfpbhjiaaGreatDoor
open Go.RowKit Go.Lib
set_option linter.unusedSimpArgs false
set_option linter.unusedVariables false
def Ab (acc:List Ev) (n:Int):Prop:=∀ x∈acc,0≤x.f∧x.f≤x.t∧x.t≤n∧-4611686018427387904≤x.o∧x.o≤4611686018427387904+x.t∧x.reel.size≤140737488355328
structure OfI (w Wn:World) (title:ByteArray) (base:Int) (drop:Bool) (lv:Value) (acc:List Ev) (wr:World):Prop where
 kp:Kp Wn w.heap.size wr
 gr:Gr w wr
 lb:Blk wr w.heap.size 24 [.string title,.int .i64 base,.bool drop,lv]
 eb:Blk wr (w.heap.size+1) 36 [.int .i64 0]
 row:wr.ownsRow Wn.heap.size 30 8 lv acc.length (eflat acc.reverse)
theorem row_gr {wr wx:World} {base size n:Nat} {e:TypeId} {v:Value} {xs:List Value} (h:wr.ownsRow base e size v n xs) (hg:Gr wr wx):wx.ownsRow base e size v n xs:=by
 obtain⟨hl,h0⟩:=h
 refine⟨hl,?_⟩
 rcases h0 with h0 | ⟨g,cap,cur,e1,e2,e3,r⟩
 ·exact .inl h0
 ·refine .inr ⟨g,cap,cur,e1,e2,?_,r⟩
  rw [hg.by0.block g (Array.getElem?_eq_some_iff.1 e3).1 (fun e=>by cases e)]
  exact e3
theorem OfI.by {w Wn:World} {title:ByteArray} {base:Int} {drop:Bool} {lv:Value} {acc:List Ev} {wr wx:World} (h:OfI w Wn title base drop lv acc wr) (hg:Gr wr wx):OfI w Wn title base drop lv acc wx:=
 ⟨h.kp.gr hg,h.gr.trans hg,h.lb.gr hg,h.eb.gr hg,row_gr h.row hg⟩
theorem own_capE {wr:World} {base size n:Nat} {e:TypeId} {lv:Value} {xs:List Value} (h:wr.ownsRow base e size lv n xs):∀ a m c,lv=.slice a m c→m≤c:=by
 obtain⟨_,⟨rfl,h0⟩ | ⟨g,cap,cur,rfl,_,_,hc,_⟩⟩:=h
 ·intro a m c e
  injection e with e1 e2 e3
  omega
 ·intro a m c e
  injection e with e1 e2 e3
  omega
theorem own_ne {wr:World} {base size n:Nat} {e:TypeId} {lv:Value} {xs:List Value} (h:wr.ownsRow base e size lv n xs):∀ b,b<base→lv.ownBlock≠some b:=by
 obtain⟨_,⟨rfl,h0⟩ | ⟨g,cap,cur,rfl,hg,_⟩⟩:=h
 ·intro b hb e
  simp [Value.ownBlock] at e
 ·intro b hb e
  simp [Value.ownBlock] at e
  omega
theorem own_len {wr:World} {base size n:Nat} {e:TypeId} {lv:Value} {xs:List Value} (h:wr.ownsRow base e size lv n xs):∃ a c,lv=.slice a n c:=by
 obtain⟨_,⟨rfl,h0⟩ | ⟨g,cap,cur,rfl,_⟩⟩:=h
 ·exact⟨none,0,by rw [h0]⟩
 ·exact⟨_,_,rfl⟩
theorem Kp.grow {W:World} {L:Nat} {wr wx:World} {row:Option Nat} (h:Kp W L wr) (hg:wr.grownBy wx row) (hb:∀ k,row=some k→W.heap.size≤k):Kp W L wx:=by
 refine⟨Nat.le_trans h.sz hg.size,fun b o hb2 hn=>?_⟩
 rw [← h.at_ b o hb2 hn]
 exact World.cell?_of_block (a:=⟨b,o,none⟩) (hg.block b (Nat.lt_of_lt_of_le hb2 h.sz) (by intro e;have:=hb b e.symm;omega))
theorem OfI.push {w Wn:World} {title:ByteArray} {base:Int} {drop:Bool} {lv v9:Value} {acc:List Ev} {wr w9:World} (h:OfI w Wn title base drop lv acc wr) (hW:w.heap.size+2≤Wn.heap.size) (e:Ev)
  (hown:w9.ownsRow Wn.heap.size 30 8 v9 (acc.length+1) (eflat acc.reverse ++ e.cells)) (hg:wr.grownBy w9 lv.ownBlock):OfI w Wn title base drop v9 (e :: acc) (w9.setCell ⟨w.heap.size,3,none⟩ v9):=by
 have hge:=own_ge h.row
 have hge9:=own_ge hown
 have hgS:=grown_setCell w9 ⟨w.heap.size,3,none⟩ v9
 have hne9:v9.ownBlock≠some w.heap.size:=fun h=>by have:=hge9 _ h;omega
 have hlb:=(h.lb.grown hg (fun e=>by have:=hge _ e;omega)).set 3 v9
 simp only [zS,zZ] at hlb
 refine⟨(h.kp.grow hg hge).put v9,(h.gr.grown hg (fun k hk=>by have:=hge _ hk;omega)).grown hgS (fun k hk=>by injection hk with hk;simp at hk;omega),hlb,(h.eb.grown hg (fun e=>by have:=hge _ e;omega)).other (by simp) v9,?_⟩
 have:=World.ownsRow.kept hown hgS (.inr hne9)
 rw [List.reverse_cons,eflat_append,List.length_cons]
 have hone:eflat [e]=e.cells:=by rw [eflat_cons];exact List.append_nil _
 rw [hone]
 exact this
theorem an_bnd {s:Sr} (h:vSr s):-4611686018427387904≤s.an∧s.an≤4611686018427387904:=by
 rcases h with rfl | h
 ·decide
 ·have h1:=h.a2
  have h2:=h.a1
  omega
theorem relN_sz {s:Sr} (h:vSr s):(relN s).size≤140737488355328:=by
 unfold relN
 split
 ·decide
 ·rcases h with rfl | h
  ·decide
  ·have:=nm_size h.nm
   omega
theorem mkE_ab {k p fr:Int} {s:Sr} {n len:Int} (h:vSr s) (h0:0≤n) (hl:1≤len):-4611686018427387904≤(mkE k p fr s n len).o∧(mkE k p fr s n len).o≤4611686018427387904+(n+len):=by
 have h1:=an_bnd h
 unfold mkE relI
 simp only
 split
 ·omega
 ·split <;> omega
theorem evO_ab {c:Cl} {bf:Sr} {n:Int} {e:Ev} (hc:VC c) (h:evO c bf n=some e) (h0:0≤n):e.f=n∧e.t=n+c.len∧-4611686018427387904≤e.o∧e.o≤4611686018427387904+e.t∧e.reel.size≤140737488355328:=by
 obtain⟨i1,i2,i3,i4⟩:=evO_ie hc h
 refine⟨i2,i3,?_⟩
 rw [i3]
 have hl:=hc.len.1
 unfold evO at h
 split at h
 ·split at h
  ·injection h with h
   subst h
   exact⟨(mkE_ab hc.a h0 hl).1,(mkE_ab hc.a h0 hl).2,relN_sz hc.a⟩
  ·cases h
 ·split at h
  ·split at h
   ·split at h
    ·injection h with h
     subst h
     exact⟨(mkE_ab hc.b h0 hl).1,(mkE_ab hc.b h0 hl).2,relN_sz hc.b⟩
    ·cases h
   ·cases h
  ·cases h
theorem Ab.push {e:Ev} {r:List Ev} {n ln:Int} {c:Cl} {bf:Sr} (h:Ab r n) (hc:VC c) (hl:c.len=ln) (he:evO c bf n=some e) (h0:0≤n):Ab (e :: r) (n+ln):=by
 obtain⟨e1,e2,e3,e4,e5⟩:=evO_ab hc he h0
 have:=hc.len.1
 intro y hy
 rcases List.mem_cons.1 hy with rfl | hy
 ·omega
 ·have hx:=h y hy
  omega
theorem OfI.last {w Wn:World} {title:ByteArray} {base:Int} {drop:Bool} {lv:Value} {x:Ev} {r:List Ev} {wr:World} (h:OfI w Wn title base drop lv (x :: r) wr) :
  ∃ g cap,lv=.slice (some ⟨g,0,none⟩) (r.length+1) cap∧g<wr.heap.size∧Wn.heap.size≤g∧(∀ (j:Nat) (u:Value),x.cells[j]?=some u→wr.cell? ⟨g,r.length * 8+j,none⟩=some u)∧∀ j,wr.frozen? ⟨g,j,none⟩=false:=by
 have hr:=h.row
 have hl:(x :: r).reverse.length=r.length+1:=by simp
 rcases hr.2 with ⟨e1,e2⟩ | ⟨g,cap,cur,e1,_⟩
 ·simp at e2
 ·rw [e1] at hr
  obtain⟨h1,h2⟩:=hr.lt g rfl
  refine⟨g,cap,e1,h2,h1,fun j u hu=>?_,hr.frozenAt⟩
  have hj:j<8:=(List.getElem?_eq_some_iff.1 hu).1
  rw [hr.cellAt _ (by simp only [List.length_cons];omega)]
  have hi:r.length<(x :: r).reverse.length:=by rw [hl];omega
  rw [eflat_at (x :: r).reverse r.length hi j hj]
  simpa using hu
theorem infoEvz:(Tryz.prog.info? 30).map (fun i=>(i.zero,i.size,i.bytes))=some (some (.agg #[.int .i64 0,.int .i64 0,.int .i64 0,.string ⟨#[]⟩,.int .i64 0,.int .i64 0,.int .i64 0,.int .i64 0]),8,72):=by kernel_rfl
theorem infoEvt1:(Tryz.prog.info? 30).map (·.size)=some 8:=by kernel_rfl
theorem ev_one (x:Ev):∀ v∈x.cells,v.oneCell'=true:=by
 intro v hm
 unfold Ev.cells at hm
 simp only [List.mem_cons,List.not_mem_nil,or_false] at hm
 rcases hm with rfl | rfl | rfl | rfl | rfl | rfl | rfl | rfl <;> rfl
end Go.Proofs.YtgbiodnfpbhjiaaGreatDoor
