/-
  Walk of the law EdlFormats, over the callees' contracts.
  Conditions: the list given and the numbers lie in memory.
-/
import Derived.Test.YtgbiodnfpbhjiaaGreatDoorLawTracks
import Derived.Test.YtgbiodnfpbhjiaaGreatDoorShelf
import Derived.Shelf.LaysM
import Derived.Shelf.LaysC
import Derived.Shelf.Strings.Prefix
import Derived.Shelf.Strings.Split
import Derived.Test.YtgbiodnfpbhjiaaGreatDoorWalk19H
namespace Go.Proofs.YtgbiodnfpbhjiaaGreatDoor
open Go.RowKit Go.Lib
set_option linter.unusedSimpArgs false
set_option linter.unusedVariables false
set_option maxRecDepth 20000 in
set_option maxHeartbeats 8000000 in
theorem lawEfm_core (a:Option Addr) (cap:Nat) (xs:List Int) (raw:El) (rv:Value) (w:World) (hraw:ElR w rv raw) (hrc:∀ a n c,rv=.slice a n c→n≤c)
  (HM:Hid (∀ w0,Gr w w0→Calls Tryz.prog 12 #[.slice a xs.length cap] w0 fun e w'=>∃ (l:El) (v:Value),e=.returned (l.val v)∧Gr w0 w'∧ElR w' v l∧(∀ a n c,v=.slice a n c→n≤c)))
  (HW:Hid (∀ w',Gr w w'→Calls Tryz.prog 15 #[] w' fun e w''=>e=.returned (.bool true)∧Gr w' w''))
  (HT:Hid (∀ (l:El) (v:Value) w',Gr w w'→ElR w' v l→∃ (FS:ByteArray) (FE:Int),(FE=0∨FE=1)∧(∀ w2,Gr w' w2→Calls Tryz.prog 23 #[l.val v] w2 fun e w''=>e=.returned (.tuple #[.string FS,.int .i64 FE])∧Gr w2 w'')∧(∀ w2,Gr w' w2→Calls Tryz.prog 25 #[l.val v] w2 fun e w''=>e=.returned (.tuple #[.string FS,.int .i64 FE])∧Gr w2 w'') ∧
   (FE=0→(∀ w2,Gr w' w2→Calls Tryz.prog 26 #[.string FS,.int .i64 l.base] w2 fun e w''=>∃ (p:Option Addr) (c:Nat),e=.returned (.tuple #[l.val (.slice p l.evs.length c),.int .i64 0])∧Gr w2 w''∧ElR w'' (.slice p l.evs.length c) l)∧(∀ w2 lv,Gr w' w2→ElR w2 lv l→Calls Tryz.prog 22 #[l.val lv,l.val v] w2 fun e w''=>e=.returned (.bool true)∧Gr w2 w'')))) :
  Calls Tryz.prog 9 #[raw.val rv,.slice a xs.length cap] w fun e w'=>e=.returned (.bool true)∧Gr w w':=by
 obtain⟨rl,hrl⟩:∃ rl:El,rl=raw:=⟨_,rfl⟩
 obtain⟨ra,rcp,hrs,-⟩:=hraw.evs.shape
 rw [hrs] at hraw hrc ⊢
 rw [← hrl] at hraw
 obtain⟨rt,rb,rd,revs⟩:=raw
 unfold El.val
 simp only at hrs ⊢
 have hb0:=Cel.new w #[.string rt,.int .i64 rb,.bool rd,.slice ra revs.length rcp] 24
 have hgA:Gr w (w.alloc (.cells #[.string rt,.int .i64 rb,.bool rd,.slice ra revs.length rcp] 24)):=(Gr.refl w).alloc _
 replace hrl:=Lib.hid hrl
 replace hraw:=Lib.hid hraw
 replace hrc:=Lib.hid hrc
 clear hrs
 go_enter Tryz.func9,Tryz.ntmps9
 go_upto_region 1 with fail
 generalize w.alloc (.cells #[.string rt,.int .i64 rb,.bool rd,.slice ra revs.length rcp] 24)=W0 at *
 have hgd:Gr W0 W0.drew:=(Gr.refl W0).drew
 replace hb0:=hb0.gr hgd
 replace hgA:=hgA.trans hgd
 clear hgd
 refine wp_region_still (Keep 6 (fun x=>Cel x w.heap.size [.string rt,.int .i64 rb,.bool rd,.slice ra revs.length rcp])) 6 rfl (by kernel_rfl) ?_
 show stillAny _ _ _ _ _ _ #[false,false,false,false,false,false] _ _
 generalize W0.drew=W1 at *
 refine still_pure 0 (v:=.agg #[.string rt,.int .i64 rb,.bool rd,.slice ra revs.length rcp]) rfl (by kernel_rfl) (by kernel_rfl) (by kernel_rfl) (fun _=>hb0) rfl (fun wy hw=>?_) ?_
 ·replace hw:=hw (by decide)
  have q:=hw.lt
  have q0:=(hw.2 0 _ rfl).1
  have q1:=(hw.2 1 _ rfl).1
  have q2:=(hw.2 2 _ rfl).1
  have q3:=(hw.2 3 _ rfl).1
  simp [execOp,go_sem,q,q0,q1,q2,q3]
 simp only [Act.put,zI,zS,zZ]
 refine still_pure 1 (v:=.slice a xs.length cap) rfl (by kernel_rfl) (by kernel_rfl) (by kernel_rfl) (fun _=>hb0) rfl (fun w hw=>?_) ?_
 ·simp [execOp,go_sem] <;> (intros;omega)
 simp only [Act.put,zI,zS,zZ]
 refine still_pure 5 (v:=.int .i64 0) rfl (by kernel_rfl) (by kernel_rfl) (by kernel_rfl) (fun _=>hb0) rfl (fun w hw=>?_) ?_
 ·simp [execOp,go_sem] <;> (intros;omega)
 simp only [Act.put,zI,zS,zZ]
 refine still_next (j:=2) (by kernel_rfl) (by rfl) (fun R hR=>?_)
 (try simp only [zG,zH,zK])
 go_wp2_with (go_at_call 12;(with_reducible refine (HM.out _ hgA).mono ?_);rintro e w2 ⟨⟨mt,mb,md,mevs⟩,mv,rfl,hg2,hml,hmc⟩;obtain⟨ma,mcp,rfl,-⟩:=hml.evs.shape;unfold El.val;simp only at hml hmc ⊢)
 have hb2:=hb0.gr hg2
 have hgw2:=hgA.trans hg2
 replace hml:=Lib.hid hml
 replace hmc:=Lib.hid hmc
 refine only_normal (hR _ _ (Keep.step (fun h=>h.gr hg2)) ?_)
 clear hR R
 simp only [Act.put,zI,zS,zZ]
 refine still_next (j:=3) (by kernel_rfl) (by rfl) (fun R hR=>?_)
 (try simp only [zG,zH,zK])
 go_wp2_with fail
 refine only_normal (hR _ _ (Keep.step (fun h=>h.gr ((Gr.refl _).alloc _))) ?_)
 clear hR R
 simp only [Act.put,zI,zS,zZ]
 refine still_pure 4 (v:=.int .i64 2) rfl (by kernel_rfl) (by kernel_rfl) (by kernel_rfl) (fun _=>hb2.gr ((Gr.refl _).alloc _)) rfl (fun w hw=>?_) ?_
 ·simp [execOp,go_sem] <;> (intros;omega)
 simp only [Act.put,zI,zS,zZ]
 refine still_done (by kernel_rfl) ?_
 simp only [zG,zH,zK,zS,zZ]
 have hbx:=Cel.new w2 #[.string rt,.int .i64 rb,.bool rd,.slice ra revs.length rcp,.string mt,.int .i64 mb,.bool md,.slice ma mevs.length mcp] 24
 have hgn:Gr w2 (w2.alloc (.cells #[.string rt,.int .i64 rb,.bool rd,.slice ra revs.length rcp,.string mt,.int .i64 mb,.bool md,.slice ma mevs.length mcp] 24)):=(Gr.refl w2).alloc _
 have hgw3:=hgw2.trans hgn
 have HL:∀ j:Nat,j<2→∃ (l:El) (ad:Option Addr) (n c:Nat),(w2.alloc (.cells #[.string rt,.int .i64 rb,.bool rd,.slice ra revs.length rcp,.string mt,.int .i64 mb,.bool md,.slice ma mevs.length mcp] 24)).cell? ⟨w2.heap.size,j * 4,none⟩=some (.string l.title)∧(w2.alloc (.cells #[.string rt,.int .i64 rb,.bool rd,.slice ra revs.length rcp,.string mt,.int .i64 mb,.bool md,.slice ma mevs.length mcp] 24)).cell? ⟨w2.heap.size,j * 4+1,none⟩=some (.int .i64 l.base)∧(w2.alloc (.cells #[.string rt,.int .i64 rb,.bool rd,.slice ra revs.length rcp,.string mt,.int .i64 mb,.bool md,.slice ma mevs.length mcp] 24)).cell? ⟨w2.heap.size,j * 4+2,none⟩=some (.bool l.drop)∧(w2.alloc (.cells #[.string rt,.int .i64 rb,.bool rd,.slice ra revs.length rcp,.string mt,.int .i64 mb,.bool md,.slice ma mevs.length mcp] 24)).cell? ⟨w2.heap.size,j * 4+3,none⟩=some (.slice ad n c)∧ElR (w2.alloc (.cells #[.string rt,.int .i64 rb,.bool rd,.slice ra revs.length rcp,.string mt,.int .i64 mb,.bool md,.slice ma mevs.length mcp] 24)) (.slice ad n c) l∧(∀ a n' c',Value.slice ad n c=.slice a n' c'→n'≤c'):=by
  intro j hj
  rcases (show j=0∨j=1 by omega) with rfl | rfl
  ·refine⟨⟨rt,rb,rd,revs⟩,ra,revs.length,rcp,(hbx.2 0 _ rfl).1,(hbx.2 1 _ rfl).1,(hbx.2 2 _ rfl).1,(hbx.2 3 _ rfl).1,?_,hrc.out⟩
   have h1:=hraw.out
   rw [hrl.out] at h1
   exact h1.gr hgw3
  ·exact⟨⟨mt,mb,md,mevs⟩,ma,mevs.length,mcp,(hbx.2 4 _ rfl).1,(hbx.2 5 _ rfl).1,(hbx.2 6 _ rfl).1,(hbx.2 7 _ rfl).1,hml.out.gr hgn,hmc.out⟩
 have hBl:=hbx.lt
 replace HL:=Lib.hid HL
 clear hbx hgn hb2 hb0 hgA hraw hrl hml hmc hrc hgw2 hg2 HM
 generalize w2.alloc (.cells #[.string rt,.int .i64 rb,.bool rd,.slice ra revs.length rcp,.string mt,.int .i64 mb,.bool md,.slice ma mevs.length mcp] 24)=W3 at *
 obtain⟨Bk,hBk⟩:∃ Bk,w2.heap.size=Bk:=⟨_,rfl⟩
 rw [hBk] at HL hBl ⊢
 clear hBk
 go_wp2
 go_loopw [18] (fun i wr=>∃ j:Nat,j≤2∧i=.int .i64 j∧Gr W3 wr) (fun i _=>2 - (RowKit.intOf i).toNat)
 case atStart=>exact⟨0,by omega,rfl,Gr.refl _⟩
 case round=>
  obtain⟨j,hj,rfl,hg⟩:=hrel
  by_cases c1:j<2
  ·have q1:decide ((j:Int)<2)=true:=decide_eq_true (by omega)
   have q1':decide (j<2)=true:=decide_eq_true c1
   obtain⟨l,ad,n,c,z0,z1,z2,z3,hl,hc⟩:=HL.out j c1
   replace z0:=(hg.cells.1 Bk _ hBl).trans z0
   replace z1:=(hg.cells.1 Bk _ hBl).trans z1
   replace z2:=(hg.cells.1 Bk _ hBl).trans z2
   replace z3:=(hg.cells.1 Bk _ hBl).trans z3
   have hx:=Nat.lt_of_lt_of_le hBl hg.size
   have hlr:=hl.gr hg
   obtain⟨FS,FE,hFE,HF1,HR1,HP1⟩:=HT.out l (.slice ad n c) wr (hgw3.trans hg) hlr
   obtain⟨n',hn'⟩:∃ n',l.evs.length=n':=⟨_,rfl⟩
   rw [hn'] at HP1
   unfold El.val at HF1 HR1 HP1
   obtain⟨Pl,hPl⟩:∃ Pl:Value→World→Prop,Pl=fun v w=>ElR w v l:=⟨_,rfl⟩
   replace HF1:=Lib.hid HF1
   replace HR1:=Lib.hid HR1
   have hPg:Hid (∀ (v:Value) (w w':World),Pl v w→Gr w w'→Pl v w'):=Lib.hid (by rw [hPl];exact fun v w w' h hg=>ElR.gr hg h)
   have HP2:Hid (FE=0→(∀ w2,Gr wr w2→Calls Tryz.prog 26 #[.string FS,.int .i64 l.base] w2 fun e w''=>∃ (p:Option Addr) (c:Nat),e=.returned (.tuple #[.agg #[.string l.title,.int .i64 l.base,.bool l.drop,.slice p n' c],.int .i64 0])∧Gr w2 w''∧Pl (.slice p n' c) w'')∧(∀ w2 lv,Gr wr w2→Pl lv w2→Calls Tryz.prog 22 #[.agg #[.string l.title,.int .i64 l.base,.bool l.drop,lv],.agg #[.string l.title,.int .i64 l.base,.bool l.drop,.slice ad n c]] w2 fun e w''=>e=.returned (.bool true)∧Gr w2 w'')):=Lib.hid (by rw [hPl];exact HP1)
   clear HP1 hPl hn'
   obtain⟨t,b,d,evs⟩:=l
   simp only at *
   clear hl hlr HT HL hc
   have hb:=Cel.new wr #[.string t,.int .i64 b,.bool d,.slice ad n c] 24
   have hga:Gr wr (wr.alloc (.cells #[.string t,.int .i64 b,.bool d,.slice ad n c] 24)):=(Gr.refl wr).alloc _
   have q3:(FE != FE)=false:=by simp
   have q4:(FS.toList != FS.toList)=false:=by simp
   have q4':(FS.toList == FS.toList)=true:=by simp
   by_cases hE0:FE=0
   ·have q5:(FE != 0)=false:=by simp [hE0]
    obtain⟨HPa,HPs⟩:=HP2.out hE0
    replace HPa:=Lib.hid HPa
    replace HPs:=Lib.hid HPs
    replace hE0:=Lib.hid hE0
    clear HP2 hFE
    go_wp2_with (first
     | (go_at_call 23;(with_reducible refine (HF1.out _ hga).mono ?_);rintro e4 w4 ⟨rfl,hg4⟩;have hb4:=hb.gr hg4;have y:=hb4.lt;have y0:=(hb4.2 0 _ rfl).1;have y1:=(hb4.2 1 _ rfl).1;have y2:=(hb4.2 2 _ rfl).1;have y3:=(hb4.2 3 _ rfl).1)
     | (go_at_call 25;(with_reducible refine (HR1.out _ (hga.trans hg4)).mono ?_);rintro e5 w5 ⟨rfl,hg5⟩;have hb5:=hb4.gr hg5;have x:=hb5.lt;have x0:=(hb5.2 0 _ rfl).1;have x1:=(hb5.2 1 _ rfl).1;have x2:=(hb5.2 2 _ rfl).1;have x3:=(hb5.2 3 _ rfl).1)
     | (go_at_call 26;(with_reducible refine (HPa.out _ ((hga.trans hg4).trans hg5)).mono ?_);rintro e6 w6 ⟨p6,c6,rfl,hg6,hP6⟩;have hgB:Gr w6 (w6.alloc (.cells #[.string t,.int .i64 b,.bool d,.slice p6 n' c6] 24)):=(Gr.refl w6).alloc _;have hb6:=(hb5.gr hg6).gr hgB;have z:=hb6.lt;have z0':=(hb6.2 0 _ rfl).1;have z1':=(hb6.2 1 _ rfl).1;have z2':=(hb6.2 2 _ rfl).1;have z3':=(hb6.2 3 _ rfl).1;have hP6':=hPg.out _ _ _ hP6 hgB)
     | (go_at_call 22;(with_reducible refine (HPs.out _ _ ((((hga.trans hg4).trans hg5).trans hg6).trans hgB) hP6').mono ?_);rintro e7 w7 ⟨rfl,hg7⟩))
    go_roundw
    case rel=>exact⟨j+1,by omega,by go_num,hg.trans (((((hga.trans hg4).trans hg5).trans hg6).trans hgB).trans hg7)⟩
    case measure=>simp [RowKit.intOf];omega
   ·have q5:(FE != 0)=true:=by simp [hE0]
    replace hE0:=Lib.hid hE0
    clear HP2 hFE hPg
    go_wp2_with (first
     | (go_at_call 23;(with_reducible refine (HF1.out _ hga).mono ?_);rintro e4 w4 ⟨rfl,hg4⟩;have hb4:=hb.gr hg4;have y:=hb4.lt;have y0:=(hb4.2 0 _ rfl).1;have y1:=(hb4.2 1 _ rfl).1;have y2:=(hb4.2 2 _ rfl).1;have y3:=(hb4.2 3 _ rfl).1)
     | (go_at_call 25;(with_reducible refine (HR1.out _ (hga.trans hg4)).mono ?_);rintro e5 w5 ⟨rfl,hg5⟩))
    go_roundw
    case rel=>exact⟨j+1,by omega,by go_num,hg.trans ((hga.trans hg4).trans hg5)⟩
    case measure=>simp [RowKit.intOf];omega
  ·have q1:decide ((j:Int)<2)=false:=decide_eq_false (by omega)
   have q1':decide (j<2)=false:=decide_eq_false c1
   clear HT HL
   go_wp2_with (go_at_call 15;(with_reducible refine (HW.out _ (hgw3.trans hg)).mono ?_);rintro e9 w9 ⟨rfl,hg9⟩)
   go_ret
   exact⟨rfl,(hgw3.trans hg).trans hg9⟩
end Go.Proofs.YtgbiodnfpbhjiaaGreatDoor

namespace Go.Proofs
open Go.Shelf
def Tryz.lays206_ren:Go.Shelf.Ren:=⟨fun | 206=>178 | n=>n,fun | 9=>9 | 4=>4 | 3=>3 | n=>n,fun | n=>n⟩
def Tryz.lays101_ren:Go.Shelf.Ren:=⟨fun | 101=>107 | 208=>139 | 206=>178 | n=>n,fun | 9=>9 | 4=>4 | 3=>3 | n=>n,fun | n=>n⟩
theorem Tryz.lays101:Go.Proofs.Lays.n101 Tryz.prog Tryz.lays101_ren:={
 mixed:=by kernel_rfl
 f101:=Tryz.func107.trans (congrArg some (by kernel_rfl))
 f206:=Tryz.func178.trans (congrArg some (by kernel_rfl))
 f208:=Tryz.func139.trans (congrArg some (by kernel_rfl))
 t3:=Tryz.underlying3
 a3:=Tryz.isAgg3
 z3:=Tryz.sizeOf3
 v3:=Tryz.zeroValue3
 t4:=Tryz.underlying4
 a4:=Tryz.isAgg4
 z4:=Tryz.sizeOf4
 v4:=Tryz.zeroValue4
 t9:=Tryz.underlying9
 a9:=Tryz.isAgg9
 z9:=Tryz.sizeOf9
 v9:=Tryz.zeroValue9 }
open Go.RowKit Go.Lib in
theorem Tryz.strings_TrimPrefix (s p:ByteArray) (w:World) :
  Calls Tryz.prog 107 #[.string s,.string p] w fun e w'=>e=.returned (.string ⟨(Lib.trimPrefix s.data.toList p.data.toList).toArray⟩)∧w'=w:=Any.strings_TrimPrefix Tryz.lays101 s p w
def Tryz.lays221_ren:Go.Shelf.Ren:=⟨fun | 221=>179 | 268=>217 | 138=>218 | 143=>219 | 195=>240 | 197=>241 | 218=>242 | 219=>177 | 260=>258 | 217=>213 | 225=>214 | 224=>215 | 267=>216 | 266=>238 | 314=>239 | n=>n,fun | 9=>9 | 3=>3 | 31=>43 | 4=>4 | 0=>0 | 105=>284 | 21=>21 | 5=>5 | 46=>203 | 119=>306 | 139=>309 | 138=>308 | 146=>253 | 51=>252 | n=>n,fun | 1=>0 | 3=>8 | 4=>9 | n=>n⟩
def Tryz.lays146_ren:Go.Shelf.Ren:=⟨fun | 146=>140 | 221=>179 | 268=>217 | 138=>218 | 143=>219 | 195=>240 | 197=>241 | 218=>242 | 219=>177 | 260=>258 | 217=>213 | 225=>214 | 224=>215 | 267=>216 | 266=>238 | 314=>239 | n=>n,fun | 9=>9 | 31=>43 | 3=>3 | 4=>4 | 0=>0 | 105=>284 | 21=>21 | 5=>5 | 46=>203 | 119=>306 | 139=>309 | 138=>308 | 146=>253 | 51=>252 | n=>n,fun | 1=>0 | 3=>8 | 4=>9 | n=>n⟩
theorem Tryz.lays146:Go.Proofs.Lays.n146 Tryz.prog Tryz.lays146_ren:={
 mixed:=by kernel_rfl
 f138:=Tryz.func218.trans (congrArg some (by kernel_rfl))
 f143:=Tryz.func219.trans (congrArg some (by kernel_rfl))
 f146:=Tryz.func140.trans (congrArg some (by kernel_rfl))
 f195:=Tryz.func240.trans (congrArg some (by kernel_rfl))
 f197:=Tryz.func241.trans (congrArg some (by kernel_rfl))
 f217:=Tryz.func213.trans (congrArg some (by kernel_rfl))
 f218:=Tryz.func242.trans (congrArg some (by kernel_rfl))
 f219:=Tryz.func177.trans (congrArg some (by kernel_rfl))
 f221:=Tryz.func179.trans (congrArg some (by kernel_rfl))
 f224:=Tryz.func215.trans (congrArg some (by kernel_rfl))
 f225:=Tryz.func214.trans (congrArg some (by kernel_rfl))
 f260:=Tryz.func258.trans (congrArg some (by kernel_rfl))
 f266:=Tryz.func238.trans (congrArg some (by kernel_rfl))
 f267:=Tryz.func216.trans (congrArg some (by kernel_rfl))
 f268:=Tryz.func217.trans (congrArg some (by kernel_rfl))
 f314:=Tryz.func239.trans (congrArg some (by kernel_rfl))
 t0:=Tryz.underlying0
 a0:=Tryz.isAgg0
 z0:=Tryz.sizeOf0
 v0:=Tryz.zeroValue0
 t3:=Tryz.underlying3
 a3:=Tryz.isAgg3
 z3:=Tryz.sizeOf3
 v3:=Tryz.zeroValue3
 t4:=Tryz.underlying4
 a4:=Tryz.isAgg4
 z4:=Tryz.sizeOf4
 v4:=Tryz.zeroValue4
 t5:=Tryz.underlying5
 a5:=Tryz.isAgg5
 z5:=Tryz.sizeOf5
 v5:=Tryz.zeroValue5
 t9:=Tryz.underlying9
 a9:=Tryz.isAgg9
 z9:=Tryz.sizeOf9
 v9:=Tryz.zeroValue9
 t21:=Tryz.underlying21
 a21:=Tryz.isAgg21
 z21:=Tryz.sizeOf21
 v21:=Tryz.zeroValue21
 t31:=Tryz.underlying43
 a31:=Tryz.isAgg43
 z31:=Tryz.sizeOf43
 v31:=Tryz.zeroValue43
 t46:=Tryz.underlying203
 a46:=Tryz.isAgg203
 z46:=Tryz.sizeOf203
 v46:=Tryz.zeroValue203
 t51:=Tryz.underlying252
 a51:=Tryz.isAgg252
 z51:=Tryz.sizeOf252
 v51:=Tryz.zeroValue252
 t105:=Tryz.underlying284
 a105:=Tryz.isAgg284
 z105:=Tryz.sizeOf284
 v105:=Tryz.zeroValue284
 t119:=Tryz.underlying306
 a119:=Tryz.isAgg306
 z119:=Tryz.sizeOf306
 t138:=Tryz.underlying308
 a138:=Tryz.isAgg308
 z138:=Tryz.sizeOf308
 v138:=Tryz.zeroValue308
 t139:=Tryz.underlying309
 a139:=Tryz.isAgg309
 z139:=Tryz.sizeOf309
 v139:=Tryz.zeroValue309
 t146:=Tryz.underlying253
 a146:=Tryz.isAgg253
 z146:=Tryz.sizeOf253
 v146:=Tryz.zeroValue253
 g1:=by kernel_rfl
 g3:=by kernel_rfl
 g4:=by kernel_rfl }
open Go.RowKit Go.Lib in
theorem Tryz.strings_Split (s sep:ByteArray) (m:Int) (w:World) (hs:s.size<4294967281) (hm:w.cell? ⟨0,0,none⟩=some (.int .i64 m)) (h1:1≤sep.size) :
  Calls Tryz.prog 140 #[.string s,.string sep] w fun e w'=>
   e=.returned (.slice (some ⟨w.heap.size,0,none⟩) (Lib.countB s sep+1) (Lib.countB s sep+1))∧w'=w.alloc (.cells ((Lib.splitB sep 0 (Lib.countB s sep) s).map Value.string).toArray 9):=Any.strings_Split Tryz.lays146 (by kernel_rfl) s sep m w hs hm h1
end Go.Proofs

namespace Go.Proofs.YtgbiodnfpbhjiaaGreatDoor.C19
open Go.RowKit
set_option linter.unusedSimpArgs false
set_option linter.unusedVariables false
theorem wp_gen {P:Program} {c:Code} {Q:Exit→Act→World→Prop} {a:Act} {W:World} (R:World→Prop) (hR:R W) (h:∀ W',R W'→c.wp P Q a W'):c.wp P Q a W:=h W hR
set_option maxRecDepth 100000 in
set_option maxHeartbeats 4000000 in
theorem parse_plain (S:ByteArray) (b V:Int) (w:World) (hb:isB b=true) (hS:S.size=11)
  (a0:48≤((S[0]'(by omega)).toNat:Int)∧((S[0]'(by omega)).toNat:Int)≤57) (a1:48≤((S[1]'(by omega)).toNat:Int)∧((S[1]'(by omega)).toNat:Int)≤57) (a3:48≤((S[3]'(by omega)).toNat:Int)∧((S[3]'(by omega)).toNat:Int)≤57) (a4:48≤((S[4]'(by omega)).toNat:Int)∧((S[4]'(by omega)).toNat:Int)≤57) (a6:48≤((S[6]'(by omega)).toNat:Int)∧((S[6]'(by omega)).toNat:Int)≤57) (a7:48≤((S[7]'(by omega)).toNat:Int)∧((S[7]'(by omega)).toNat:Int)≤57) (a9:48≤((S[9]'(by omega)).toNat:Int)∧((S[9]'(by omega)).toNat:Int)≤57) (a10:48≤((S[10]'(by omega)).toNat:Int)∧((S[10]'(by omega)).toNat:Int)≤57)
  (m2:((S[2]'(by omega)).toNat:Int)=58) (m5:((S[5]'(by omega)).toNat:Int)=58) (m8:((S[8]'(by omega)).toNat:Int)=58)
  (H:∀ w,Calls Tryz.prog 176 #[.agg #[.int .i64 ((((S[0]'(by omega)).toNat:Int) - 48) * 10+(((S[1]'(by omega)).toNat:Int) - 48)),.int .i64 ((((S[3]'(by omega)).toNat:Int) - 48) * 10+(((S[4]'(by omega)).toNat:Int) - 48)),.int .i64 ((((S[6]'(by omega)).toNat:Int) - 48) * 10+(((S[7]'(by omega)).toNat:Int) - 48)),.int .i64 ((((S[9]'(by omega)).toNat:Int) - 48) * 10+(((S[10]'(by omega)).toNat:Int) - 48)),.int .i64 b,.bool false]] w fun e w'=>e=.returned (.tuple #[.int .i64 V,.int .i64 0])∧Gr w w') :
  Calls Tryz.prog 181 #[.string S,.int .i64 b] w fun e w'=>e=.returned (.tuple #[.agg #[.int .i64 ((((S[0]'(by omega)).toNat:Int) - 48) * 10+(((S[1]'(by omega)).toNat:Int) - 48)),.int .i64 ((((S[3]'(by omega)).toNat:Int) - 48) * 10+(((S[4]'(by omega)).toNat:Int) - 48)),.int .i64 ((((S[6]'(by omega)).toNat:Int) - 48) * 10+(((S[7]'(by omega)).toNat:Int) - 48)),.int .i64 ((((S[9]'(by omega)).toNat:Int) - 48) * 10+(((S[10]'(by omega)).toNat:Int) - 48)),.int .i64 b,.bool false],.int .i64 0])∧Gr w w':=by
 have HN:=Lib.hid H
 have HB:=Lib.hid (fun w=>hb ▸ isBase_any b w)
 obtain⟨a0l,a0h⟩:=a0
 obtain⟨a1l,a1h⟩:=a1
 obtain⟨a3l,a3h⟩:=a3
 obtain⟨a4l,a4h⟩:=a4
 obtain⟨a6l,a6h⟩:=a6
 obtain⟨a7l,a7h⟩:=a7
 obtain⟨a9l,a9h⟩:=a9
 obtain⟨a10l,a10h⟩:=a10
 clear H hb
 go_enter Tryz.func181,Tryz.ntmps181
 go_wp2_with (go_at_call 77;refine (HB.out _).mono ?_;rintro e w' ⟨rfl,rfl⟩)
 refine wp_loop_rounds 5 ?_
 rw [rounds_succ]
 go_wp2
 go_quiet (fail)
 go_wp2
 rw [rounds_succ]
 go_wp2
 go_quiet (fail)
 go_wp2
 rw [rounds_succ]
 go_wp2
 go_quiet (fail)
 go_wp2
 rw [rounds_succ]
 go_wp2
 go_quiet (fail)
 go_wp2
 rw [rounds_succ]
 go_wp2
 refine wp_gen (R:=fun W=>Gr (w.alloc (.cells #[.int .i64 0,.int .i64 0,.int .i64 0,.int .i64 0,.int .i64 0,.bool false] 153)) W∧w.heap.size+1<W.heap.size∧W.cell? ⟨w.heap.size+1,0,none⟩=some (.int .i64 ((((S[0]'(by omega)).toNat:Int) - 48) * 10+(((S[1]'(by omega)).toNat:Int) - 48)))∧W.cell? ⟨w.heap.size+1,1,none⟩=some (.int .i64 ((((S[3]'(by omega)).toNat:Int) - 48) * 10+(((S[4]'(by omega)).toNat:Int) - 48)))∧W.cell? ⟨w.heap.size+1,2,none⟩=some (.int .i64 ((((S[6]'(by omega)).toNat:Int) - 48) * 10+(((S[7]'(by omega)).toNat:Int) - 48)))∧W.cell? ⟨w.heap.size+1,3,none⟩=some (.int .i64 ((((S[9]'(by omega)).toNat:Int) - 48) * 10+(((S[10]'(by omega)).toNat:Int) - 48)))) ⟨(by repeat (first | with_reducible exact Gr.refl _ | with_reducible assumption | refine Gr.setCell ?_ (by first | omega | (simp;done) | (simp;omega)) _ | refine Gr.alloc ?_ _ | refine Gr.drew ?_ | refine Gr.drewN ?_ _ | refine Gr.trans ?_ (by with_reducible assumption))),by simp,by simp [go_sem],by simp [go_sem],by simp [go_sem],by simp [go_sem]⟩ ?_
 rintro W ⟨hgW,hsW,k0,k1,k2,k3⟩
 obtain⟨hcW,hfW⟩:=hgW.cells
 have hlW:w.heap.size<W.heap.size:=by omega
 have hmW:w.heap.size≤W.heap.size:=by omega
 go_region
 go_wp2_with (go_at_call 176;refine (HN.out _).mono ?_;rintro e w3 ⟨rfl,hg3⟩;obtain⟨hc3,hf3⟩:=hg3.cells;have hz3:=hg3.size;(try simp at hz3);(try have hl3_0_0:w.heap.size<w3.heap.size:=by omega);(try have hm3_0_0:w.heap.size≤w3.heap.size:=by omega);(try have hl3_0_1:w.heap.size+1<w3.heap.size:=by omega);(try have hl3_0_2:w.heap.size+2<w3.heap.size:=by omega);(try have hl3_1_0:w1.heap.size<w3.heap.size:=by omega);(try have hm3_1_0:w1.heap.size≤w3.heap.size:=by omega);(try have hl3_1_1:w1.heap.size+1<w3.heap.size:=by omega);(try have hl3_1_2:w1.heap.size+2<w3.heap.size:=by omega);(try have hl3_2_0:w2.heap.size<w3.heap.size:=by omega);(try have hm3_2_0:w2.heap.size≤w3.heap.size:=by omega);(try have hl3_2_1:w2.heap.size+1<w3.heap.size:=by omega);(try have hl3_2_2:w2.heap.size+2<w3.heap.size:=by omega))
 have t0:=hc3 w.heap.size 0 (by simp;omega)
 have t1:=hc3 w.heap.size 1 (by simp;omega)
 have t2:=hc3 w.heap.size 2 (by simp;omega)
 have t3:=hc3 w.heap.size 3 (by simp;omega)
 have t4:=hc3 w.heap.size 4 (by simp;omega)
 have t5:=hc3 w.heap.size 5 (by simp;omega)
 have t6:=hf3 w.heap.size 0 (by simp;omega)
 simp [go_sem,hlW,hcW] at t0 t1 t2 t3 t4 t5
 simp [go_sem,hlW,hfW] at t6
 simp [bodyPost,results,Tryz.results181,go_sem,t0,t1,t2,t3,t4,t5,t6]
 exact (by repeat (first | refine Gr.setCell ?_ (by first | omega | (simp;done) | (simp;omega)) _ | refine Gr.alloc ?_ _ | refine Gr.drew ?_ | refine Gr.drewN ?_ _ | with_reducible assumption | with_reducible exact Gr.refl _ | refine Gr.trans ?_ (by with_reducible assumption)))
set_option maxRecDepth 100000 in
set_option maxHeartbeats 4000000 in
theorem parse_drop (S:ByteArray) (b V:Int) (w:World) (hb:isB b=true) (hS:S.size=11)
  (a0:48≤((S[0]'(by omega)).toNat:Int)∧((S[0]'(by omega)).toNat:Int)≤57) (a1:48≤((S[1]'(by omega)).toNat:Int)∧((S[1]'(by omega)).toNat:Int)≤57) (a3:48≤((S[3]'(by omega)).toNat:Int)∧((S[3]'(by omega)).toNat:Int)≤57) (a4:48≤((S[4]'(by omega)).toNat:Int)∧((S[4]'(by omega)).toNat:Int)≤57) (a6:48≤((S[6]'(by omega)).toNat:Int)∧((S[6]'(by omega)).toNat:Int)≤57) (a7:48≤((S[7]'(by omega)).toNat:Int)∧((S[7]'(by omega)).toNat:Int)≤57) (a9:48≤((S[9]'(by omega)).toNat:Int)∧((S[9]'(by omega)).toNat:Int)≤57) (a10:48≤((S[10]'(by omega)).toNat:Int)∧((S[10]'(by omega)).toNat:Int)≤57)
  (m2:((S[2]'(by omega)).toNat:Int)=58) (m5:((S[5]'(by omega)).toNat:Int)=58) (m8:((S[8]'(by omega)).toNat:Int)=59)
  (H:∀ w,Calls Tryz.prog 176 #[.agg #[.int .i64 ((((S[0]'(by omega)).toNat:Int) - 48) * 10+(((S[1]'(by omega)).toNat:Int) - 48)),.int .i64 ((((S[3]'(by omega)).toNat:Int) - 48) * 10+(((S[4]'(by omega)).toNat:Int) - 48)),.int .i64 ((((S[6]'(by omega)).toNat:Int) - 48) * 10+(((S[7]'(by omega)).toNat:Int) - 48)),.int .i64 ((((S[9]'(by omega)).toNat:Int) - 48) * 10+(((S[10]'(by omega)).toNat:Int) - 48)),.int .i64 b,.bool true]] w fun e w'=>e=.returned (.tuple #[.int .i64 V,.int .i64 0])∧Gr w w') :
  Calls Tryz.prog 181 #[.string S,.int .i64 b] w fun e w'=>e=.returned (.tuple #[.agg #[.int .i64 ((((S[0]'(by omega)).toNat:Int) - 48) * 10+(((S[1]'(by omega)).toNat:Int) - 48)),.int .i64 ((((S[3]'(by omega)).toNat:Int) - 48) * 10+(((S[4]'(by omega)).toNat:Int) - 48)),.int .i64 ((((S[6]'(by omega)).toNat:Int) - 48) * 10+(((S[7]'(by omega)).toNat:Int) - 48)),.int .i64 ((((S[9]'(by omega)).toNat:Int) - 48) * 10+(((S[10]'(by omega)).toNat:Int) - 48)),.int .i64 b,.bool true],.int .i64 0])∧Gr w w':=by
 have HN:=Lib.hid H
 have HB:=Lib.hid (fun w=>hb ▸ isBase_any b w)
 obtain⟨a0l,a0h⟩:=a0
 obtain⟨a1l,a1h⟩:=a1
 obtain⟨a3l,a3h⟩:=a3
 obtain⟨a4l,a4h⟩:=a4
 obtain⟨a6l,a6h⟩:=a6
 obtain⟨a7l,a7h⟩:=a7
 obtain⟨a9l,a9h⟩:=a9
 obtain⟨a10l,a10h⟩:=a10
 clear H hb
 go_enter Tryz.func181,Tryz.ntmps181
 go_wp2_with (go_at_call 77;refine (HB.out _).mono ?_;rintro e w' ⟨rfl,rfl⟩)
 refine wp_loop_rounds 5 ?_
 rw [rounds_succ]
 go_wp2
 go_quiet (fail)
 go_wp2
 rw [rounds_succ]
 go_wp2
 go_quiet (fail)
 go_wp2
 rw [rounds_succ]
 go_wp2
 go_quiet (fail)
 go_wp2
 rw [rounds_succ]
 go_wp2
 go_quiet (fail)
 go_wp2
 rw [rounds_succ]
 go_wp2
 refine wp_gen (R:=fun W=>Gr (w.alloc (.cells #[.int .i64 0,.int .i64 0,.int .i64 0,.int .i64 0,.int .i64 0,.bool false] 153)) W∧w.heap.size+1<W.heap.size∧W.cell? ⟨w.heap.size+1,0,none⟩=some (.int .i64 ((((S[0]'(by omega)).toNat:Int) - 48) * 10+(((S[1]'(by omega)).toNat:Int) - 48)))∧W.cell? ⟨w.heap.size+1,1,none⟩=some (.int .i64 ((((S[3]'(by omega)).toNat:Int) - 48) * 10+(((S[4]'(by omega)).toNat:Int) - 48)))∧W.cell? ⟨w.heap.size+1,2,none⟩=some (.int .i64 ((((S[6]'(by omega)).toNat:Int) - 48) * 10+(((S[7]'(by omega)).toNat:Int) - 48)))∧W.cell? ⟨w.heap.size+1,3,none⟩=some (.int .i64 ((((S[9]'(by omega)).toNat:Int) - 48) * 10+(((S[10]'(by omega)).toNat:Int) - 48)))) ⟨(by repeat (first | with_reducible exact Gr.refl _ | with_reducible assumption | refine Gr.setCell ?_ (by first | omega | (simp;done) | (simp;omega)) _ | refine Gr.alloc ?_ _ | refine Gr.drew ?_ | refine Gr.drewN ?_ _ | refine Gr.trans ?_ (by with_reducible assumption))),by simp,by simp [go_sem],by simp [go_sem],by simp [go_sem],by simp [go_sem]⟩ ?_
 rintro W ⟨hgW,hsW,k0,k1,k2,k3⟩
 obtain⟨hcW,hfW⟩:=hgW.cells
 have hlW:w.heap.size<W.heap.size:=by omega
 have hmW:w.heap.size≤W.heap.size:=by omega
 go_region
 go_wp2_with (go_at_call 176;refine (HN.out _).mono ?_;rintro e w3 ⟨rfl,hg3⟩;obtain⟨hc3,hf3⟩:=hg3.cells;have hz3:=hg3.size;(try simp at hz3);(try have hl3_0_0:w.heap.size<w3.heap.size:=by omega);(try have hm3_0_0:w.heap.size≤w3.heap.size:=by omega);(try have hl3_0_1:w.heap.size+1<w3.heap.size:=by omega);(try have hl3_0_2:w.heap.size+2<w3.heap.size:=by omega);(try have hl3_1_0:w1.heap.size<w3.heap.size:=by omega);(try have hm3_1_0:w1.heap.size≤w3.heap.size:=by omega);(try have hl3_1_1:w1.heap.size+1<w3.heap.size:=by omega);(try have hl3_1_2:w1.heap.size+2<w3.heap.size:=by omega);(try have hl3_2_0:w2.heap.size<w3.heap.size:=by omega);(try have hm3_2_0:w2.heap.size≤w3.heap.size:=by omega);(try have hl3_2_1:w2.heap.size+1<w3.heap.size:=by omega);(try have hl3_2_2:w2.heap.size+2<w3.heap.size:=by omega))
 have t0:=hc3 w.heap.size 0 (by simp;omega)
 have t1:=hc3 w.heap.size 1 (by simp;omega)
 have t2:=hc3 w.heap.size 2 (by simp;omega)
 have t3:=hc3 w.heap.size 3 (by simp;omega)
 have t4:=hc3 w.heap.size 4 (by simp;omega)
 have t5:=hc3 w.heap.size 5 (by simp;omega)
 have t6:=hf3 w.heap.size 0 (by simp;omega)
 simp [go_sem,hlW,hcW] at t0 t1 t2 t3 t4 t5
 simp [go_sem,hlW,hfW] at t6
 simp [bodyPost,results,Tryz.results181,go_sem,t0,t1,t2,t3,t4,t5,t6]
 exact (by repeat (first | refine Gr.setCell ?_ (by first | omega | (simp;done) | (simp;omega)) _ | refine Gr.alloc ?_ _ | refine Gr.drew ?_ | refine Gr.drewN ?_ _ | with_reducible assumption | with_reducible exact Gr.refl _ | refine Gr.trans ?_ (by with_reducible assumption)))
end Go.Proofs.YtgbiodnfpbhjiaaGreatDoor.C19
