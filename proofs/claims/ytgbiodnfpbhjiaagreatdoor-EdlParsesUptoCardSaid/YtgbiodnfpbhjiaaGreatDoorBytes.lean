/-
  Contract of Parse of package edl.
  Conditions: the callees' contracts.
-/
import Derived.Test.YtgbiodnfpbhjiaaGreatDoorWalkXq
import Derived.Test.YtgbiodnfpbhjiaaGreatDoorWalkOfC
import Derived.Test.YtgbiodnfpbhjiaaGreatDoorShelfB
import Derived.Test.YtgbiodnfpbhjiaaGreatDoorWalkFx
import Derived.Test.YtgbiodnfpbhjiaaGreatDoorWalkXr
import Derived.Test.YtgbiodnfpbhjiaaGreatDoorChecked
import Derived.Test.YtgbiodnfpbhjiaaGreatDoorKit
import Derived.Test.YtgbiodnfpbhjiaaGreatDoorMem
import Derived.Laws.IdiomStrings
namespace Go.Proofs.YtgbiodnfpbhjiaaGreatDoor
open Go.RowKit Go.Lib
set_option linter.unusedSimpArgs false
set_option linter.unusedVariables false
set_option maxRecDepth 20000 in
set_option maxHeartbeats 8000000 in
theorem eParse_base (S:ByteArray) (b:Int) (w:World) (hb:C19.okB b false=false) :
  Calls Tryz.prog 26 #[.string S,.int .i64 b] w fun e w'=>e=.returned (.tuple #[.agg #[.string ⟨#[]⟩,.int .i64 0,.bool false,.slice none 0 0],.int .i64 1])∧Gr w w':=by
 have hmf:=hmf_any Tryz.prog
 have HD:=Lib.hid fun w=>C19.day_no b false w hb
 clear hb
 have hL0:=(Blk.new w [.string ⟨#[]⟩,.int .i64 0,.bool false,.slice none 0 0] 24).gr ((Gr.refl _).alloc (.cells #[.int .i64 0] 36))
 have hE0:=Blk.new (w.alloc (.cells #[.string ⟨#[]⟩,.int .i64 0,.bool false,.slice none 0 0] 24)) [.int .i64 0] 36
 rw [show (w.alloc (.cells #[.string ⟨#[]⟩,.int .i64 0,.bool false,.slice none 0 0] 24)).heap.size=w.heap.size+1 by simp] at hE0
 have hg0:Gr w ((w.alloc (.cells #[.string ⟨#[]⟩,.int .i64 0,.bool false,.slice none 0 0] 24)).alloc (.cells #[.int .i64 0] 36)):=((Gr.refl w).alloc _).alloc _
 go_enter_defers Tryz.func26,Tryz.ntmps26
 go_upto_region 2 with fail
 generalize (w.alloc (.cells #[.string ⟨#[]⟩,.int .i64 0,.bool false,.slice none 0 0] 24)).alloc (.cells #[.int .i64 0] 36)=W0 at *
 have y0:=hL0.lt
 obtain⟨y1,u1⟩:=hL0.cel.2 0 _ rfl
 obtain⟨y2,u2⟩:=hL0.cel.2 1 _ rfl
 obtain⟨y3,u3⟩:=hL0.cel.2 2 _ rfl
 obtain⟨y4,u4⟩:=hL0.cel.2 3 _ rfl
 have z0:=hE0.lt
 obtain⟨z1,u5⟩:=hE0.cel.one
 go_wp2_with (go_at_call 35;(with_reducible refine (HD.out _).mono ?_);rintro e w1 ⟨rfl,rfl⟩)
 refine leaves_cons (f:=66) (args:=#[.pointer (some ⟨w.heap.size,0,none⟩),.pointer (some ⟨w.heap.size+1,0,none⟩)]) (by simp) (by simp [go_sem]) ?_
 refine (parseD_idle _ _ _).mono ?_
 rintro e u' w'' ⟨rfl,rfl,rfl⟩
 simp [Leaves,settle,results,Tryz.results26,go_sem,y0,y1,y2,y3,y4,z0,z1]
 repeat (first | (with_reducible exact hg0) | (with_reducible refine Gr.setCell ?_ (by simp) _))
set_option maxRecDepth 20000 in
set_option maxHeartbeats 8000000 in
theorem eParse_core (S:ByteArray) (b D0:Int) (w:World)
  (HD:Hid (∀ w,Calls Tryz.prog 35 #[.int .i64 b,.bool false] w fun e w'=>e=.returned (.tuple #[.int .i64 D0,.int .i64 0])∧w=w'))
  (HP:Hid (∀ w',Gr w w'→Calls Tryz.prog 67 #[.string S,.int .i64 b] w' fun e w''=>∃ (l:El) (lv:Value) (ok:Bool),e=.returned (.tuple #[l.val lv,.bool ok])∧Gr w' w''∧ElR w'' lv l∧(∀ a n c,lv=.slice a n c→n≤c)∧(∀ k,lv.ownBlock=some k→w'.heap.size≤k)∧Hid ((ok=true→l.base=b∧∀ l',IsE l' b S.data.toList→l'=l)∧(ok=false→∀ l',¬ IsE l' b S.data.toList))))
  (HF:Hid (∀ (l:El) (v:Value) w',Gr w w'→ElR w' v l→Calls Tryz.prog 23 #[l.val v] w' fun e w''=>∃ (x:ByteArray) (E:Int),e=.returned (.tuple #[.string x,.int .i64 E])∧Gr w' w''∧Hid ((E=0↔vEl l=true)∧(E=0→x.data.toList=fmtB l)))) :
  Calls Tryz.prog 26 #[.string S,.int .i64 b] w fun e w'=>∃ (l:El) (lv:Value) (E:Int),e=.returned (.tuple #[l.val lv,.int .i64 E])∧Gr w w'∧ElR w' lv l∧(∀ a n c,lv=.slice a n c→n≤c)∧PlR b S.data.toList l E:=by
 have hmf:=hmf_any Tryz.prog
 have hL0:=(Blk.new w [.string ⟨#[]⟩,.int .i64 0,.bool false,.slice none 0 0] 24).gr ((Gr.refl _).alloc (.cells #[.int .i64 0] 36))
 have hE0:=Blk.new (w.alloc (.cells #[.string ⟨#[]⟩,.int .i64 0,.bool false,.slice none 0 0] 24)) [.int .i64 0] 36
 rw [show (w.alloc (.cells #[.string ⟨#[]⟩,.int .i64 0,.bool false,.slice none 0 0] 24)).heap.size=w.heap.size+1 by simp] at hE0
 have hg0:Gr w ((w.alloc (.cells #[.string ⟨#[]⟩,.int .i64 0,.bool false,.slice none 0 0] 24)).alloc (.cells #[.int .i64 0] 36)):=((Gr.refl w).alloc _).alloc _
 go_enter_defers Tryz.func26,Tryz.ntmps26
 go_upto_region 2 with fail
 generalize (w.alloc (.cells #[.string ⟨#[]⟩,.int .i64 0,.bool false,.slice none 0 0] 24)).alloc (.cells #[.int .i64 0] 36)=W0 at *
 go_upto_region 5 with (go_at_call 35;(with_reducible refine (HD.out _).mono ?_);rintro e w1 ⟨rfl,rfl⟩)
 clear HD
 go_upto_region 6 with (go_at_call 67;(with_reducible refine (HP.out _ hg0).mono ?_);rintro e w3 ⟨⟨pt,pb,pd,pes⟩,lv,ok,rfl,hg3,hEl,hcap,hown,hok⟩;unfold El.val;simp only at hEl hok ⊢;obtain⟨pa,pc,rfl,-⟩:=hEl.evs.shape;simp only at hEl hcap hown ⊢;have hl3:=hL0.gr hg3;have y0:=hl3.lt;obtain⟨y1,u1⟩:=hl3.cel.2 0 _ rfl;obtain⟨y2,u2⟩:=hl3.cel.2 1 _ rfl;obtain⟨y3,u3⟩:=hl3.cel.2 2 _ rfl;obtain⟨y4,u4⟩:=hl3.cel.2 3 _ rfl)
 have hl4:=(((hl3.set 0 (.string pt)).set 1 (.int .i64 pb)).set 2 (.bool pd)).set 3 (.slice pa pes.length pc)
 simp only [zS,zZ] at hl4
 have hgw:=hg0.trans hg3
 have hz4:=((((hE0.gr hg3).other (p:=⟨w.heap.size,0,none⟩) (by simp) (.string pt)).other (p:=⟨w.heap.size,1,none⟩) (by simp) (.int .i64 pb)).other (p:=⟨w.heap.size,2,none⟩) (by simp) (.bool pd)).other (p:=⟨w.heap.size,3,none⟩) (by simp) (.slice pa pes.length pc)
 have hg4:Gr w ((((w3.setCell ⟨w.heap.size,0,none⟩ (.string pt)).setCell ⟨w.heap.size,1,none⟩ (.int .i64 pb)).setCell ⟨w.heap.size,2,none⟩ (.bool pd)).setCell ⟨w.heap.size,3,none⟩ (.slice pa pes.length pc)):=by
  repeat (first | (with_reducible exact hgw) | (with_reducible refine Gr.setCell ?_ (by simp) _))
 have hW0:=hE0.lt
 have hne0:(Value.slice pa pes.length pc).ownBlock≠some w.heap.size:=fun h=>by have:=hown _ h;omega
 have hne1:(Value.slice pa pes.length pc).ownBlock≠some (w.heap.size+1):=fun h=>by have:=hown _ h;omega
 have hEv4:=Rd.off (p:=⟨w.heap.size,3,none⟩) (Rd.off (p:=⟨w.heap.size,2,none⟩) (Rd.off (p:=⟨w.heap.size,1,none⟩) (Rd.off (p:=⟨w.heap.size,0,none⟩) hEl.evs hne0 (.string pt)) hne0 (.int .i64 pb)) hne0 (.bool pd)) hne0 (.slice pa pes.length pc)
 have hEt:=hEl.t
 have hEr:=hEl.r
 have hEn:=hEl.n
 simp only at hEt hEr hEn hEv4
 clear y0 y1 y2 y3 y4 u1 u2 u3 u4 hl3 hL0 hE0 hg0 hgw hEl hown HP hW0 hg3
 generalize (((w3.setCell ⟨w.heap.size,0,none⟩ (.string pt)).setCell ⟨w.heap.size,1,none⟩ (.int .i64 pb)).setCell ⟨w.heap.size,2,none⟩ (.bool pd)).setCell ⟨w.heap.size,3,none⟩ (.slice pa pes.length pc)=W4 at *
 replace hne0:=Lib.hid hne0
 replace hne1:=Lib.hid hne1
 replace hcap:=Lib.hid hcap
 replace hEr:=Lib.hid hEr
 cases ok with
 | false=>
  have hPl:Hid (PlR b S.data.toList ⟨⟨#[]⟩,0,false,[]⟩ 3):=Lib.hid (PlR.none (hok.out.2 rfl))
  clear HF hok hEv4 hEr hEt hEn
  have y0:=hl4.lt
  obtain⟨y1,u1⟩:=hl4.cel.2 0 _ rfl
  obtain⟨y2,u2⟩:=hl4.cel.2 1 _ rfl
  obtain⟨y3,u3⟩:=hl4.cel.2 2 _ rfl
  obtain⟨y4,u4⟩:=hl4.cel.2 3 _ rfl
  have z0:=hz4.lt
  obtain⟨z1,w1⟩:=hz4.cel.one
  go_wp2
  refine leaves_cons (f:=66) (args:=#[.pointer (some ⟨w.heap.size,0,none⟩),.pointer (some ⟨w.heap.size+1,0,none⟩)]) (by simp) (by simp [go_sem]) ?_
  refine (parseD_idle _ _ _).mono ?_
  rintro e u' w'' ⟨rfl,rfl,rfl⟩
  simp [-Bool.exists_bool,-Bool.forall_bool,Leaves,settle,results,Tryz.results26,go_sem,y0,y1,y2,y3,y4,z0,z1]
  refine⟨⟨⟨#[]⟩,0,false,[]⟩,.slice none 0 0,3,⟨rfl,rfl⟩,?_,⟨EvsR.nil _,by decide,fun e he=>(by cases he),by decide⟩,fun a n c e=>(by injection e;omega),hPl.out⟩
  repeat (first | (with_reducible exact hg4) | (with_reducible refine Gr.setCell ?_ (by simp) _))
 | true=>
  obtain⟨hb,hu⟩:=hok.out.1 rfl
  obtain⟨hPy,hPn⟩:=PlR.of hb hu
  replace hPy:=Lib.hid hPy
  replace hPn:=Lib.hid hPn
  have HF1:=Lib.hid fun w' hg hE=>HF.out ⟨pt,pb,pd,pes⟩ (.slice pa pes.length pc) w' hg hE
  unfold El.val at HF1
  simp only at HF1
  clear HF hok hu hb
  have y0:=hl4.lt
  obtain⟨y1,u1⟩:=hl4.cel.2 0 _ rfl
  obtain⟨y2,u2⟩:=hl4.cel.2 1 _ rfl
  obtain⟨y3,u3⟩:=hl4.cel.2 2 _ rfl
  obtain⟨y4,u4⟩:=hl4.cel.2 3 _ rfl
  have hEl4:ElR W4 (.slice pa pes.length pc) ⟨pt,pb,pd,pes⟩:=⟨hEv4,hEt,hEr.out,hEn⟩
  go_upto_region 9 with (go_at_call 23;(with_reducible refine (HF1.out _ hg4 hEl4).mono ?_);rintro e w5 ⟨x,E,rfl,hg5,hF⟩)
  have hl5:=hl4.gr hg5
  have hz5:=hz4.gr hg5
  have hgT:=hg4.trans hg5
  have hEv5:=Rd.gr hg5 hEv4
  clear HF1 hl4 hz4 hg4 hEv4 hg5 hEl4 y0 y1 y2 y3 y4 u1 u2 u3 u4
  by_cases hE0:E=0
  ·have q0:(E != 0)=false:=by simp [hE0]
   have hbx:(x.toList == S.toList)=decide (x.data.toList=S.data.toList):=by rw [bl_iff,ByteArray.toList_eq S]
   by_cases hxs:x.data.toList=S.data.toList
   ·have qx:(x.toList == S.toList)=true:=by rw [hbx];exact decide_eq_true hxs
    have hPl:Hid (PlR b S.data.toList ⟨pt,pb,pd,pes⟩ 0):=Lib.hid (hPy.out ⟨hF.out.1.1 hE0,by rw [← hF.out.2 hE0];exact hxs⟩)
    replace hE0:=Lib.hid hE0
    clear hF hPy hPn hbx hxs
    have y0:=hl5.lt
    obtain⟨y1,u1⟩:=hl5.cel.2 0 _ rfl
    obtain⟨y2,u2⟩:=hl5.cel.2 1 _ rfl
    obtain⟨y3,u3⟩:=hl5.cel.2 2 _ rfl
    obtain⟨y4,u4⟩:=hl5.cel.2 3 _ rfl
    have z0:=hz5.lt
    obtain⟨z1,w1⟩:=hz5.cel.one
    go_wp2
    refine leaves_cons (f:=66) (args:=#[.pointer (some ⟨w.heap.size,0,none⟩),.pointer (some ⟨w.heap.size+1,0,none⟩)]) (by simp) (by simp [go_sem]) ?_
    refine (parseD_idle _ _ _).mono ?_
    rintro e u' w'' ⟨rfl,rfl,rfl⟩
    simp [-Bool.exists_bool,-Bool.forall_bool,Leaves,settle,results,Tryz.results26,go_sem,y0,y1,y2,y3,y4,z0,z1]
    refine⟨⟨pt,pb,pd,pes⟩,.slice pa pes.length pc,0,⟨rfl,rfl⟩,?_,⟨?_,hEt,hEr.out,hEn⟩,hcap.out,hPl.out⟩
    ·repeat (first | (with_reducible exact hgT) | (with_reducible refine Gr.setCell ?_ (by simp) _))
    ·exact Rd.off (p:=⟨w.heap.size+1,0,none⟩) (Rd.off (p:=⟨w.heap.size,3,none⟩) (Rd.off (p:=⟨w.heap.size,2,none⟩) (Rd.off (p:=⟨w.heap.size,1,none⟩) (Rd.off (p:=⟨w.heap.size,0,none⟩) hEv5 hne0.out _) hne0.out _) hne0.out _) hne0.out _) hne1.out _
   ·have qx:(x.toList == S.toList)=false:=by rw [hbx];exact decide_eq_false hxs
    have hPl:Hid (PlR b S.data.toList ⟨⟨#[]⟩,0,false,[]⟩ 3):=Lib.hid (hPn.out fun h=>hxs (by rw [hF.out.2 hE0];exact h.2))
    replace hE0:=Lib.hid hE0
    clear hF hPy hPn hbx hxs
    have y0:=hl5.lt
    obtain⟨y1,u1⟩:=hl5.cel.2 0 _ rfl
    obtain⟨y2,u2⟩:=hl5.cel.2 1 _ rfl
    obtain⟨y3,u3⟩:=hl5.cel.2 2 _ rfl
    obtain⟨y4,u4⟩:=hl5.cel.2 3 _ rfl
    have z0:=hz5.lt
    obtain⟨z1,w1⟩:=hz5.cel.one
    go_wp2
    refine leaves_cons (f:=66) (args:=#[.pointer (some ⟨w.heap.size,0,none⟩),.pointer (some ⟨w.heap.size+1,0,none⟩)]) (by simp) (by simp [go_sem]) ?_
    refine (parseD_idle _ _ _).mono ?_
    rintro e u' w'' ⟨rfl,rfl,rfl⟩
    simp [-Bool.exists_bool,-Bool.forall_bool,Leaves,settle,results,Tryz.results26,go_sem,y0,y1,y2,y3,y4,z0,z1]
    refine⟨⟨⟨#[]⟩,0,false,[]⟩,.slice none 0 0,3,⟨rfl,rfl⟩,?_,⟨EvsR.nil _,by decide,fun e he=>(by cases he),by decide⟩,fun a n c e=>(by injection e;omega),hPl.out⟩
    repeat (first | (with_reducible exact hgT) | (with_reducible refine Gr.setCell ?_ (by simp) _))
  ·have q0:(E != 0)=true:=by simp [hE0]
   have hPl:Hid (PlR b S.data.toList ⟨⟨#[]⟩,0,false,[]⟩ 3):=Lib.hid (hPn.out fun h=>hE0 (hF.out.1.2 h.1))
   clear hF hPy hPn
   have y0:=hl5.lt
   obtain⟨y1,u1⟩:=hl5.cel.2 0 _ rfl
   obtain⟨y2,u2⟩:=hl5.cel.2 1 _ rfl
   obtain⟨y3,u3⟩:=hl5.cel.2 2 _ rfl
   obtain⟨y4,u4⟩:=hl5.cel.2 3 _ rfl
   have z0:=hz5.lt
   obtain⟨z1,w1⟩:=hz5.cel.one
   go_wp2
   refine leaves_cons (f:=66) (args:=#[.pointer (some ⟨w.heap.size,0,none⟩),.pointer (some ⟨w.heap.size+1,0,none⟩)]) (by simp) (by simp [go_sem]) ?_
   refine (parseD_idle _ _ _).mono ?_
   rintro e u' w'' ⟨rfl,rfl,rfl⟩
   simp [-Bool.exists_bool,-Bool.forall_bool,Leaves,settle,results,Tryz.results26,go_sem,y0,y1,y2,y3,y4,z0,z1]
   refine⟨⟨⟨#[]⟩,0,false,[]⟩,.slice none 0 0,3,⟨rfl,rfl⟩,?_,⟨EvsR.nil _,by decide,fun e he=>(by cases he),by decide⟩,fun a n c e=>(by injection e;omega),hPl.out⟩
   repeat (first | (with_reducible exact hgT) | (with_reducible refine Gr.setCell ?_ (by simp) _))
end Go.Proofs.YtgbiodnfpbhjiaaGreatDoor

namespace Go.Proofs.YtgbiodnfpbhjiaaGreatDoor
open Go.RowKit Go.Lib
set_option linter.unusedSimpArgs false
set_option linter.unusedVariables false
theorem pevent_any (S:ByteArray) (b:Int) (w:World) (hT:Er w) (hM:Mx w) (hs:S.size≤2000000) :
  Calls Tryz.prog 108 #[.string S,.int .i64 b] w fun e w'=>∃ (v:Ev) (ok:Bool),e=.returned (.tuple #[v.val,.bool ok])∧Gr w w'∧Hid (∀ d,PeB b d S.data.toList v ok)∧v.reel.size≤S.size:=by
 obtain⟨ws,h1,h2,h3,h4⟩:=split_any S (by omega)
 refine pevent_core S b w ws (Lib.hid h1) h2 h3 (by omega) (Lib.hid fun w' hg=>h4 w' (hM.gr hg)) (Lib.hid ?_) (Lib.hid fun s=>pframes_any s b)
 intro w' B n cap s0 s1 hg hB hn hc hz c0 c1
 refine (kind_core B 3 n cap s0 s1 w' hB hn hc c0 c1 (Lib.hid fun w2 hg2=>?_)).mono ?_
 ·refine (epint_any s1 w2 (hT.gr (hg.trans hg2)) (by omega)).mono ?_
  rintro e w3 ⟨x,v,rfl,hg3,hcase⟩
  rcases hcase with ⟨rfl,hp⟩ | ⟨⟨N,rfl⟩,hp⟩
  ·exact⟨x,_,true,rfl,hg3,Lib.hid fun y hy=>⟨rfl,by rw [hp] at hy;injection hy⟩,cmp_nilIface,gd_nilIface⟩
  ·exact⟨x,_,false,rfl,hg3,Lib.hid fun y hy=>absurd hy (hp y),fun w=>cmp_iface w N,fun x w=>gd_iface x w N⟩
 ·rintro e w3 ⟨k,p,fr,ok,a,m,c,rfl,hg3,hP⟩
  exact⟨k,p,fr,ok,a,m,c,rfl,hg3,Lib.hid hP⟩
theorem eparse_any (S:ByteArray) (b:Int) (w:World) (hT:Er w) (hM:Mx w) (hs:S.size≤2000000) :
  Calls Tryz.prog 67 #[.string S,.int .i64 b] w fun e w'=>∃ (l:El) (lv:Value) (ok:Bool),e=.returned (.tuple #[l.val lv,.bool ok])∧Gr w w'∧ElR w' lv l∧(∀ a n c,lv=.slice a n c→n≤c)∧(∀ k,lv.ownBlock=some k→w.heap.size≤k)∧Hid ((ok=true→l.base=b∧∀ l',IsE l' b S.data.toList→l'=l)∧(ok=false→∀ l',¬ IsE l' b S.data.toList)):=
 eparse_core S b w hs (Lib.hid fun w' x hg hx=>cutW_any x w' (hM.gr hg) (by omega)) (Lib.hid fun w' x hg=>trimW_any x w') (Lib.hid fun w' x hg hx=>by
  refine (pevent_any x b w' (hT.gr hg) (hM.gr hg) (by omega)).mono ?_
  rintro e w'' ⟨v,ok,rfl,hg2,h1,h2⟩
  exact⟨v.cells,ok,rfl,hg2,v,rfl,h1,h2⟩)
def PrR (b:Int) (s:List UInt8) (l:El) (E:Int):Prop:=(C19.okB b false=false∧l=⟨⟨#[]⟩,0,false,[]⟩∧E=1)∨(C19.okB b false=true∧PlR b s l E)
theorem PrR.unique {b:Int} {s:List UInt8} {l m:El} {E F:Int} (h:PrR b s l E) (h':PrR b s m F):l=m∧E=F:=by
 rcases h with ⟨h0,rfl,rfl⟩ | ⟨h0,h⟩
 ·rcases h' with ⟨_,rfl,rfl⟩ | ⟨h1,_⟩
  ·exact⟨rfl,rfl⟩
  ·rw [h0] at h1;cases h1
 ·rcases h' with ⟨h1,_⟩ | ⟨_,h'⟩
  ·rw [h0] at h1;cases h1
  ·exact h.unique h'
theorem eParse_any (S:ByteArray) (b:Int) (w:World) (hP:Pow w) (hT:Er w) (hM:Mx w) (hs:S.size≤2000000) :
  Calls Tryz.prog 26 #[.string S,.int .i64 b] w fun e w'=>∃ (l:El) (lv:Value) (E:Int),e=.returned (.tuple #[l.val lv,.int .i64 E])∧Gr w w'∧ElR w' lv l∧(∀ a n c,lv=.slice a n c→n≤c)∧PrR b S.data.toList l E:=by
 cases hb:C19.okB b false with
 | false=>
  refine (eParse_base S b w hb).mono ?_
  rintro e w' ⟨rfl,hg⟩
  exact⟨⟨⟨#[]⟩,0,false,[]⟩,.slice none 0 0,1,rfl,hg,⟨EvsR.nil _,by decide,fun e he=>(by cases he),by decide⟩,fun a n c e=>(by injection e;omega),.inl ⟨hb,rfl,rfl⟩⟩
 | true=>
  refine (eParse_core S b (C19.dayN b false) w (Lib.hid fun w=>C19.day_yes b false w hb) (Lib.hid fun w' hg=>eparse_any S b w' (hT.gr hg) (hM.gr hg) hs) (Lib.hid fun l v w' hg hl=>?_)).mono ?_
  ·cases hv:vEl l with
   | false=>
    refine (eformat_no l v w' hl hv).mono ?_
    rintro e w2 ⟨rfl,hg2⟩
    exact⟨_,_,rfl,hg2,Lib.hid ⟨⟨fun h=>by omega,fun h=>by cases h⟩,fun h=>by omega⟩⟩
   | true=>
    refine (eformat_yes l v w' hl hv (Pow.gr hg hP)).mono ?_
    rintro e w2 ⟨rfl,hg2⟩
    exact⟨_,_,rfl,hg2,Lib.hid ⟨⟨fun _=>rfl,fun _=>rfl⟩,fun _=>by simp⟩⟩
  ·rintro e w' ⟨l,lv,E,rfl,hg,hl,hc,hR⟩
   exact⟨l,lv,E,rfl,hg,hl,hc,.inr ⟨hb,hR⟩⟩
end Go.Proofs.YtgbiodnfpbhjiaaGreatDoor

namespace Go.Proofs.YtgbiodnfpbhjiaaGreatDoor
open Go.RowKit Go.Lib
set_option linter.unusedSimpArgs false
set_option linter.unusedVariables false
def byV (l:List UInt8):List Value:=l.map fun b=>Value.int .u8 (b.toNat:Int)
theorem bytes_conv (w:World) (s:ByteArray):∃ cap V,(convert 9 51 (.string s)).run Tryz.prog w=.ok (.slice (some ⟨w.heap.size,0,none⟩) s.size cap) V∧Gr w V∧Cel V w.heap.size (byV s.data.toList):=by
 refine⟨_,_,run_bytes_of_string (P:=Tryz.prog) w 9 51 5 s Tryz.underlying9 Tryz.underlying51 Tryz.underlying5,(Gr.refl w).drew.alloc _,?_⟩
 generalize grownCap w s.size 0 5=cap
 refine⟨by simp,fun j v hj=>?_⟩
 have hl:j<s.data.size:=by
  have:=(List.getElem?_eq_some_iff.1 hj).1
  unfold byV at this
  simpa using this
 have hv:v=.int .u8 (s.data[j].toNat:Int):=by
  unfold byV at hj
  simp [List.getElem?_map] at hj
  obtain⟨b,hb,rfl⟩:=hj
  rw [Array.getElem?_eq_getElem hl] at hb
  injection hb with hb
  rw [hb]
 refine⟨?_,?_⟩
 ·have:=World.cell?_alloc_mark w.drew (bytesRow s cap) 5 ((bytesRow s cap).size,(bytesRow s cap).size+1) j
  rw [hv,← bytesRow_at s cap j hl]
  exact this
 ·have:=World.frozen?_alloc_mark w.drew (bytesRow s cap) 5 (bytesRow s cap).size ((bytesRow s cap).size+1) j
  refine this.trans ?_
  have h2:j<(bytesRow s cap).size:=by have:s.data.size=s.size:=rfl;unfold bytesRow;simp;omega
  rw [decide_eq_false (by omega)]
  rfl
theorem bytes_back (w:World) (g cap:Nat) (l:List UInt8) (h:Cel w g (byV l)):(convert 51 9 (.slice (some ⟨g,0,none⟩) l.length cap)).run Tryz.prog w=.ok (.string ⟨l.toArray⟩) w:=
 run_convert_bytes_back w 51 9 5 ⟨g,0,none⟩ cap l Tryz.underlying51 Tryz.underlying5 Tryz.underlying9 (fun j hj=>by
  have:=(h.2 j (.int .u8 (l[j].toNat:Int)) (by unfold byV;simp [hj])).1
  simpa [Addr.add_lit] using this)
theorem byV_set (l:List UInt8) (k:Nat) (c:Int) (hc:0≤c∧c≤255):(byV l).set k (.int .u8 c)=byV (l.set k (UInt8.ofNat c.toNat)):=by
 unfold byV
 rw [List.map_set]
 congr 2
 have:(UInt8.ofNat c.toNat).toNat=c.toNat:=by rw [UInt8.toNat_ofNat'];omega
 rw [this]
 omega
theorem spot {x L:Int} (h0:0<L) (h1:L≤4611686018427387904):0≤(wrap64 (x.tmod L+L)).tmod L∧(wrap64 (x.tmod L+L)).tmod L<L:=by
 have h2:=Int.tmod_lt_of_pos x h0
 have h3:=Int.lt_tmod_of_pos x h0
 rw [show wrap64 (x.tmod L+L)=x.tmod L+L by unfold wrap64;omega]
 exact⟨Int.tmod_nonneg _ (by omega),Int.tmod_lt_of_pos _ h0⟩
end Go.Proofs.YtgbiodnfpbhjiaaGreatDoor
