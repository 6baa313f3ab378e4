/-
  Contract of line of the reference of edit lists, at any text: it does not hang on the world.
  Conditions: the text has fewer than 4,294,967,281 bytes.
-/
import Derived.Test.YtgbiodnfpbhjiaaGreatDoorWalkXk
import Derived.Test.YtgbiodnfpbhjiaaGreatDoorMathFp
import Derived.Test.YtgbiodnfpbhjiaaGreatDoorShelfB
import Derived.Test.YtgbiodnfpbhjiaaGreatDoorWalkEe
import Derived.Laws.OwnMore
import Derived.Test.YtgbiodnfpbhjiaaGreatDoorKit
import Derived.Deep.CutBlock
import Derived.Test.YtgbiodnfpbhjiaaGreatDoorWalkTm
import Derived.Test.YtgbiodnfpbhjiaaGreatDoorWalkEg
import Derived.Deep.DeepCutAuto
namespace Go.Proofs.YtgbiodnfpbhjiaaGreatDoor
open Go.RowKit Go.Lib
set_option linter.unusedSimpArgs false
set_option linter.unusedVariables false
theorem toBa_list (l:List UInt8):(toBa l).data.toList=l:=by unfold toBa;simp
theorem toBa_of (s:ByteArray):toBa s.data.toList=s:=by
 apply ba_ext
 rw [toBa_list]
theorem reelW_of {x:Ev} (h:x.reel.size=0∨nmB x.reel=true):reelW (toBa (reelB x))=x.reel:=by
 unfold reelW reelB
 rw [toBa_list]
 by_cases hz:x.reel.size=0
 ·rw [if_pos hz,if_pos rfl]
  apply ba_ext
  have:x.reel.data.toList.length=0:=by rw [ba_len];exact hz
  rw [List.eq_nil_of_length_eq_zero this]
 ·rw [if_neg hz]
  have hn:nmB x.reel=true:=by
   rcases h with h | h
   ·exact absurd h hz
   ·exact h
  have hne:x.reel.data.toList≠[66,76]:=by
   intro e
   unfold nmB at hn
   simp only [Bool.and_eq_true] at hn
   have:=List.all_eq_true.1 hn.2 66 (by rw [e];simp)
   exact absurd this (by decide)
  rw [if_neg hne,toBa_of]
theorem line_pe {b:Int} {d:Bool} {S:List UInt8} {ws:List ByteArray} {k:Nat} {kd p fr n0 n1 n2 n3:Int} {w1 w3 w4 v0 v1 v2 v3:ByteArray} (hws:(dvG 32 [] S).map toBa=ws) (hk:ws.length=k+4)
  (h1:ws[1]?=some w1) (h3:ws[3]?=some w3) (h4:ws[4]?=some w4) (i0:ws[k]?=some v0) (i1:ws[k+1]?=some v1) (i2:ws[k+2]?=some v2) (i3:ws[k+3]?=some v3)
  (hcase:KnW w3 k kd p fr) (hnu:k=5→NuR w4 fr) (F0:FmR b d v0 n0) (F1:FmR b d v1 n1) (F2:FmR b d v2 n2) (F3:FmR b d v3 n3):PeB b d S ⟨kd,p,fr,reelW w1,n0,n1,n2,n3⟩ true:=by
 intro num x least ho h0 hn hl hx he
 have hw:=(evL_split ho hx h0 hn).2
 rw [he] at hw
 rw [hw] at hws
 obtain⟨d0,d1⟩:=day_bounds ho
 have hr:=reelW_of hx.reel
 have hxl:=hx.l
 have hxf:=hx.ft
 have hxd:=hx.d
 have bi:0≤x.i∧x.i<C19.dayN b d∧0≤x.o∧x.o<C19.dayN b d:=by
  rcases hx.rl with ⟨_,h2,h3⟩ | ⟨_,_,h2,h3,h4,h5⟩ <;> omega
 have fin:∀ kk:Nat,kk=k→KnW w3 kk kd p fr→ws[kk]?=some (toBa (labB x.i b d))→ws[kk+1]?=some (toBa (labB x.o b d))→ws[kk+2]?=some (toBa (labB x.f b d))→ws[kk+3]?=some (toBa (labB x.t b d))→ws[1]?=some (toBa (reelB x))→kd=x.k→p=x.p→fr=x.fr→(true=true∧(⟨kd,p,fr,reelW w1,n0,n1,n2,n3⟩:Ev)=x):=by
  rintro kk rfl _ j0 j1 j2 j3 j4 rfl rfl rfl
  rw [i0] at j0
  rw [i1] at j1
  rw [i2] at j2
  rw [i3] at j3
  rw [h1] at j4
  injection j0 with j0
  injection j1 with j1
  injection j2 with j2
  injection j3 with j3
  injection j4 with j4
  have e0:=F0 x.i ho (by omega) (by omega) (by rw [j0,toBa_list])
  have e1:=F1 x.o ho (by omega) (by omega) (by rw [j1,toBa_list])
  have e2:=F2 x.f ho (by omega) (by omega) (by rw [j2,toBa_list])
  have e3:=F3 x.t ho (by omega) (by omega) (by rw [j3,toBa_list])
  refine⟨rfl,?_⟩
  rw [e0,e1,e2,e3,j4,hr]
 unfold evW labW at hws
 rcases hx.kd with ⟨k0,f0,p0⟩ | ⟨k0,f1,f2,p0⟩ | ⟨k0,f1,f2,p1,p2⟩
 ·have hkd:kdW x=[[67]]:=by unfold kdW;rw [if_pos k0]
  rw [hkd] at hws
  subst hws
  have hk4:4=k:=by simp at hk;omega
  subst hk4
  rcases hcase with ⟨_,c1,c2,c3⟩ | ⟨c0,_⟩ | ⟨c0,_⟩
  ·exact fin 4 rfl (.inl ⟨rfl,c1,c2,c3⟩) rfl rfl rfl rfl rfl (by omega) (by omega) (by omega)
  ·omega
  ·omega
 ·have hkd:kdW x=[[68],t3 x.fr]:=by unfold kdW;rw [if_neg (by omega),if_pos k0]
  rw [hkd] at hws
  subst hws
  have hk4:5=k:=by simp at hk;omega
  subst hk4
  have e4:toBa (t3 x.fr)=w4:=by simpa using h4
  have e3:toBa [68]=w3:=by simpa using h3
  have ef:=hnu rfl x.fr (by omega) (by omega) (by rw [← e4,toBa_list])
  rcases hcase with ⟨c0,_⟩ | ⟨_,c1,c2,c3⟩ | ⟨_,c1,_⟩
  ·omega
  ·exact fin 5 rfl (.inr (.inl ⟨rfl,c1,c2,c3⟩)) rfl rfl rfl rfl rfl (by omega) (by omega) ef
  ·exact absurd (by rw [← e3,toBa_list]) c1
 ·have hkd:kdW x=[[87,b8 (48+x.p)],t3 x.fr]:=by unfold kdW;rw [if_neg (by omega),if_neg (by omega)]
  rw [hkd] at hws
  subst hws
  have hk4:5=k:=by simp at hk;omega
  subst hk4
  have e4:toBa (t3 x.fr)=w4:=by simpa using h4
  have e3:toBa [87,b8 (48+x.p)]=w3:=by simpa using h3
  have ef:=hnu rfl x.fr (by omega) (by omega) (by rw [← e4,toBa_list])
  subst e3
  rcases hcase with ⟨c0,_⟩ | ⟨_,c1,c2,c3⟩ | ⟨_,c1,c2,hz,c3,c4⟩
  ·omega
  ·rw [toBa_list] at c1
   simp at c1
  ·have hb:((toBa [87,b8 (48+x.p)])[1]'(by omega))=b8 (48+x.p):=rfl
   have hbn:((b8 (48+x.p)).toNat:Int)=48+x.p:=by unfold b8;simp [UInt8.toNat_ofNat];omega
   rw [hb,hbn] at c4
   exact fin 5 rfl (.inr (.inr ⟨rfl,c1,c2,hz,c3,by rw [hb,hbn];omega⟩)) rfl rfl rfl rfl rfl (by omega) (by omega) ef
set_option maxRecDepth 20000 in
set_option maxHeartbeats 4000000 in
theorem rline_no (S title:ByteArray) (b:Int) (d:Bool) (lv:Value) (w:World) (ws:List ByteArray) (HDV:∀ w,Calls Tryz.prog 68 #[.string S,.int .u8 32] w fun e w'=>∃ v,e=.returned v∧Gr w w'∧StrsR w' v ws)
  (h8:ws.length≠8) (h9:ws.length=9→∃ w3,ws[3]?=some w3∧w3.data.toList≠[68]∧∀ h:w3.size=2,w3[0]≠87) :
  Calls Tryz.prog 69 #[.string S,.agg #[.string title,.int .i64 b,.bool d,lv]] w fun e w'=>e=.returned (.tuple #[.agg #[.int .i64 0,.int .i64 0,.int .i64 0,.string ⟨#[]⟩,.int .i64 0,.int .i64 0,.int .i64 0,.int .i64 0],.bool false])∧Gr w w':=by
 replace HDV:=Lib.hid HDV
 have hg0:Gr w ((w.alloc (.cells #[.string title,.int .i64 b,.bool d,lv] 24)).alloc (.cells #[.int .i64 0,.int .i64 0,.int .i64 0,.string ⟨#[]⟩,.int .i64 0,.int .i64 0,.int .i64 0,.int .i64 0] 30)):=((Gr.refl w).alloc _).alloc _
 have hR0:Blk ((w.alloc (.cells #[.string title,.int .i64 b,.bool d,lv] 24)).alloc (.cells #[.int .i64 0,.int .i64 0,.int .i64 0,.string ⟨#[]⟩,.int .i64 0,.int .i64 0,.int .i64 0,.int .i64 0] 30)) (w.heap.size+1) 30 [.int .i64 0,.int .i64 0,.int .i64 0,.string ⟨#[]⟩,.int .i64 0,.int .i64 0,.int .i64 0,.int .i64 0]:=by
  have h:=Blk.new (w.alloc (.cells #[.string title,.int .i64 b,.bool d,lv] 24)) [.int .i64 0,.int .i64 0,.int .i64 0,.string ⟨#[]⟩,.int .i64 0,.int .i64 0,.int .i64 0,.int .i64 0] 30
  rw [show (w.alloc (.cells #[.string title,.int .i64 b,.bool d,lv] 24)).heap.size=w.heap.size+1 by simp] at h
  exact h
 go_enter Tryz.func69,Tryz.ntmps69
 go_upto_region 2 with (go_at_call 68;(with_reducible refine (HDV.out _).mono ?_);rintro e w9 ⟨v,rfl,hg9,hws⟩)
 have hR1:=hR0.gr hg9
 have hgw:=hg0.trans hg9
 clear hR0 hg0 hg9 HDV
 go_upto_region 3 with fail
 have hgX:Gr w9 (w9.alloc (.cells #[.int .i64 0,.int .i64 0,.int .i64 0,.string ⟨#[]⟩,.int .i64 0,.int .i64 0,.int .i64 0,.int .i64 0] 30)):=(Gr.refl w9).alloc _
 obtain⟨W,hWe⟩:∃ W,w9.alloc (.cells #[.int .i64 0,.int .i64 0,.int .i64 0,.string ⟨#[]⟩,.int .i64 0,.int .i64 0,.int .i64 0,.int .i64 0] 30)=W:=⟨_,rfl⟩
 have hX:Blk W w9.heap.size 30 [.int .i64 0,.int .i64 0,.int .i64 0,.string ⟨#[]⟩,.int .i64 0,.int .i64 0,.int .i64 0,.int .i64 0]:=by rw [← hWe];exact Blk.new w9 [.int .i64 0,.int .i64 0,.int .i64 0,.string ⟨#[]⟩,.int .i64 0,.int .i64 0,.int .i64 0,.int .i64 0] 30
 obtain⟨X,hXe⟩:∃ X,w9.heap.size=X:=⟨_,rfl⟩
 have hRr:w.heap.size+1<X:=by rw [← hXe];exact hR1.lt
 rw [hXe] at hX ⊢
 rw [hWe] at hgX ⊢
 have hRW:=hR1.gr hgX
 have hgW:=hgw.trans hgX
 have hwsW:=hws.gr hgX
 clear hws hR1 hgw hgX hXe hWe
 obtain⟨a,cap,rfl,hsh⟩:=hwsW.shape
 have xl:=hX.lt
 have rl:=hRW.lt
 have hx0:W.cell? ⟨X,0,none⟩=some (.int .i64 0):=(hX.cel.2 0 _ rfl).1
 obtain⟨s0,t0⟩:=hRW.cel.2 0 _ rfl
 have hx1:W.cell? ⟨X,1,none⟩=some (.int .i64 0):=(hX.cel.2 1 _ rfl).1
 obtain⟨s1,t1⟩:=hRW.cel.2 1 _ rfl
 have hx2:W.cell? ⟨X,2,none⟩=some (.int .i64 0):=(hX.cel.2 2 _ rfl).1
 obtain⟨s2,t2⟩:=hRW.cel.2 2 _ rfl
 have hx3:W.cell? ⟨X,3,none⟩=some (.string ⟨#[]⟩):=(hX.cel.2 3 _ rfl).1
 obtain⟨s3,t3⟩:=hRW.cel.2 3 _ rfl
 have hx4:W.cell? ⟨X,4,none⟩=some (.int .i64 0):=(hX.cel.2 4 _ rfl).1
 obtain⟨s4,t4⟩:=hRW.cel.2 4 _ rfl
 have hx5:W.cell? ⟨X,5,none⟩=some (.int .i64 0):=(hX.cel.2 5 _ rfl).1
 obtain⟨s5,t5⟩:=hRW.cel.2 5 _ rfl
 have hx6:W.cell? ⟨X,6,none⟩=some (.int .i64 0):=(hX.cel.2 6 _ rfl).1
 obtain⟨s6,t6⟩:=hRW.cel.2 6 _ rfl
 have hx7:W.cell? ⟨X,7,none⟩=some (.int .i64 0):=(hX.cel.2 7 _ rfl).1
 obtain⟨s7,t7⟩:=hRW.cel.2 7 _ rfl
 have q8:((ws.length:Int) != 8)=true:=by simp;omega
 by_cases hn9:ws.length=9
 ·obtain⟨w3,g3,hD,hW⟩:=h9 hn9
  rcases hsh with h0 | ⟨wb,wo,rfl,hwb,hwc⟩
  ·omega
  have c3:W.cell? ⟨wb,wo+3,none⟩=some (.string w3):=by
   obtain⟨hi,rfl⟩:=List.getElem?_eq_some_iff.1 g3
   exact hwc 3 hi
  have q9:((ws.length:Int) == 9)=true:=by simp;omega
  have i3:(3:Int)<(ws.length:Int):=by omega
  have i3':3<ws.length:=by omega
  have q2:(w3.toList == [68])=false:=by rw [bl_iff];exact decide_eq_false hD
  by_cases hz:w3.size=2
  ·have q3:((w3.size:Int) == 2)=true:=by simp;omega
   have i0:(0:Int)<(w3.size:Int):=by omega
   have q4:(((w3[0]'(by omega)).toNat:Int) == 87)=false:=by
    have:=hW hz
    have hne:(w3[0]'(by omega)).toNat≠87:=fun e=>this (UInt8.toNat_inj.1 e)
    simp;omega
   clear hwc h9 hwsW hn9 h8
   go_wp2
   simp [bodyPost,results,Tryz.results69,go_sem,s0,s1,s2,s3,s4,s5,s6,s7]
   repeat (first | (with_reducible exact hgW) | (with_reducible refine Gr.setCell ?_ (by simp) _))
  ·have q3:((w3.size:Int) == 2)=false:=by simp;omega
   clear hwc h9 hwsW hn9 h8
   go_wp2
   simp [bodyPost,results,Tryz.results69,go_sem,s0,s1,s2,s3,s4,s5,s6,s7]
   repeat (first | (with_reducible exact hgW) | (with_reducible refine Gr.setCell ?_ (by simp) _))
 ·have q9:((ws.length:Int) == 9)=false:=by simp;omega
  clear h9 hwsW hn9 h8 hsh
  go_wp2
  simp [bodyPost,results,Tryz.results69,go_sem,s0,s1,s2,s3,s4,s5,s6,s7]
  repeat (first | (with_reducible exact hgW) | (with_reducible refine Gr.setCell ?_ (by simp) _))
theorem rline_any (S:ByteArray) (b:Int) (d:Bool) (hs:S.size<4294967281):∃ (e:Ev) (ok:Bool),PeB b d S.data.toList e ok∧e.reel.size≤S.size∧∀ (title:ByteArray) (lv:Value) (w:World),Calls Tryz.prog 69 #[.string S,.agg #[.string title,.int .i64 b,.bool d,lv]] w fun en w'=>en=.returned (.tuple #[e.val,.bool ok])∧Gr w w':=by
 have HDV:=fun w=>divide30_any S 32 w hs
 obtain⟨ws,hws⟩:∃ ws,(dvG 32 [] S.data.toList).map toBa=ws:=⟨_,rfl⟩
 rw [hws] at HDV
 have hsz:∀ x∈ws,x.size≤S.size:=fun x hx=>by
  rw [← hws] at hx
  obtain⟨y,hy,rfl⟩:=List.mem_map.1 hx
  have:=dvG_mem 32 _ _ y hy
  rw [ba_len] at this
  have h2:(toBa y).size=y.length:=by rw [← ba_len,toBa_list]
  simp at this
  omega
 have hrs:∀ x∈ws,(reelW x).size≤S.size:=fun x hx=>by
  unfold reelW
  split
  ·exact Nat.zero_le _
  ·exact hsz x hx
 have hin:∀ (i:Nat) (h:i<ws.length),ws[i]?=some ws[i]:=fun i h=>List.getElem?_eq_getElem h
 have hbig:∀ x∈ws,x.size≤140737488355328:=fun x hx=>by have:=hsz x hx;omega
 have yes:∀ (k:Nat) (hk:ws.length=k+4) (hk45:k=4∨k=5) (kd p fr:Int) (hc:KnW (ws[3]'(by omega)) k kd p fr) (hnu:k=5→NuR (ws[4]'(by omega)) fr) (HN:k=5→∀ w,Calls Tryz.prog 109 #[.string (ws[4]'(by omega))] w fun e w'=>e=.returned (.int .i64 fr)∧Gr w w'),∃ (e:Ev) (ok:Bool),PeB b d S.data.toList e ok∧e.reel.size≤S.size∧∀ (title:ByteArray) (lv:Value) (w:World),Calls Tryz.prog 69 #[.string S,.agg #[.string title,.int .i64 b,.bool d,lv]] w fun en w'=>en=.returned (.tuple #[e.val,.bool ok])∧Gr w w':=by
  intro k hk hk45 kd p fr hc hnu HN
  obtain⟨n0,F0,H0⟩:=rframe_any (ws[k]'(by omega)) b d
  obtain⟨n1,F1,H1⟩:=rframe_any (ws[k+1]'(by omega)) b d
  obtain⟨n2,F2,H2⟩:=rframe_any (ws[k+2]'(by omega)) b d
  obtain⟨n3,F3,H3⟩:=rframe_any (ws[k+3]'(by omega)) b d
  refine⟨⟨kd,p,fr,reelW (ws[1]'(by omega)),n0,n1,n2,n3⟩,true,line_pe hws hk (hin 1 (by omega)) (hin 3 (by omega)) (hin 4 (by omega)) (hin k (by omega)) (hin (k+1) (by omega)) (hin (k+2) (by omega)) (hin (k+3) (by omega)) hc hnu F0 F1 F2 F3,hrs _ (List.getElem_mem _),fun title lv w=>?_⟩
  exact line_yes S title b d lv w ws k kd p fr n0 n1 n2 n3 _ _ _ _ _ _ _ _ rfl HDV hk (hin 1 (by omega)) (hin 3 (by omega)) (hin 4 (by omega)) (hin k (by omega)) (hin (k+1) (by omega)) (hin (k+2) (by omega)) (hin (k+3) (by omega)) hc HN (H0 title lv) (H1 title lv) (H2 title lv) (H3 title lv)
 have no:ws.length≠8→(ws.length=9→∃ w3,ws[3]?=some w3∧w3.data.toList≠[68]∧∀ h:w3.size=2,w3[0]≠87)→∃ (e:Ev) (ok:Bool),PeB b d S.data.toList e ok∧e.reel.size≤S.size∧∀ (title:ByteArray) (lv:Value) (w:World),Calls Tryz.prog 69 #[.string S,.agg #[.string title,.int .i64 b,.bool d,lv]] w fun en w'=>en=.returned (.tuple #[e.val,.bool ok])∧Gr w w':=by
  intro h8 h9
  refine⟨⟨0,0,0,⟨#[]⟩,0,0,0,0⟩,false,?_,Nat.zero_le _,fun title lv w=>rline_no S title b d lv w ws HDV h8 h9⟩
  intro num x least ho h0 hn hl hx he
  exfalso
  have hw:=(evL_split ho hx h0 hn).2
  rw [he] at hw
  rw [hw] at hws
  unfold evW labW at hws
  rcases hx.kd with ⟨k0,f0,p0⟩ | ⟨k0,f1,f2,p0⟩ | ⟨k0,f1,f2,p1,p2⟩
  ·have hkd:kdW x=[[67]]:=by unfold kdW;rw [if_pos k0]
   rw [hkd] at hws
   subst hws
   exact h8 rfl
  ·have hkd:kdW x=[[68],t3 x.fr]:=by unfold kdW;rw [if_neg (by omega),if_pos k0]
   rw [hkd] at hws
   subst hws
   obtain⟨w3,g1,g2,g3⟩:=h9 rfl
   have e3:toBa [68]=w3:=by simpa using g1
   subst e3
   exact g2 (toBa_list _)
  ·have hkd:kdW x=[[87,b8 (48+x.p)],t3 x.fr]:=by unfold kdW;rw [if_neg (by omega),if_neg (by omega)]
   rw [hkd] at hws
   subst hws
   obtain⟨w3,g1,g2,g3⟩:=h9 rfl
   have e3:toBa [87,b8 (48+x.p)]=w3:=by simpa using g1
   subst e3
   exact g3 rfl rfl
 by_cases h8:ws.length=8
 ·exact yes 4 h8 (.inl rfl) 0 0 0 (.inl ⟨rfl,rfl,rfl,rfl⟩) (fun h=>by omega) (fun h=>by omega)
 ·by_cases h9:ws.length=9
  ·obtain⟨fr,_,N1,N2⟩:=number_any30 (ws[4]'(by omega)) (hbig _ (List.getElem_mem _))
   by_cases hD:(ws[3]'(by omega)).data.toList=[68]
   ·exact yes 5 h9 (.inr rfl) 1 0 fr (.inr (.inl ⟨rfl,hD,rfl,rfl⟩)) (fun _=>N1) (fun _=>N2)
   ·by_cases hz:∃ h:(ws[3]'(by omega)).size=2,(ws[3]'(by omega))[0]=87
    ·obtain⟨hz,h87⟩:=hz
     exact yes 5 h9 (.inr rfl) 2 _ fr (.inr (.inr ⟨rfl,hD,rfl,hz,h87,rfl⟩)) (fun _=>N1) (fun _=>N2)
    ·exact no h8 fun _=>⟨_,hin 3 (by omega),hD,fun h e=>hz ⟨h,e⟩⟩
  ·exact no h8 fun h=>absurd h h9
end Go.Proofs.YtgbiodnfpbhjiaaGreatDoor

namespace Go.Proofs.YtgbiodnfpbhjiaaGreatDoor
open Go.RowKit Go.Lib
set_option linter.unusedSimpArgs false
set_option linter.unusedVariables false
def Jr (b:Int) (s:List UInt8) (title:ByteArray) (drop:Bool) (acc:List Ev):Prop:=∀ l,IsE l b s→l.title=title∧l.drop=drop∧∃ more,l.evs=acc ++ more
theorem isE_rows {l:El} {b:Int} {s:List UInt8} (h:IsE l b s):dvG 10 [] s=ttlB l.title :: fcmB l.drop :: (evLs b l.drop 1 l.evs ++ [[]]):=by
 obtain⟨hv,hb,hf⟩:=h
 have:=lines_dv hv
 rw [hf] at this
 rw [this]
 unfold linesB
 rw [hb]
 rfl
theorem Jr.start {b:Int} {s r0 r1:List UInt8} (h0:(dvG 10 [] s)[0]?=some r0) (h1:(dvG 10 [] s)[1]?=some r1):Jr b s ⟨(r0.drop 7).toArray⟩ (decide (r1=fcmB true)) []:=by
 intro l hl
 rw [isE_rows hl] at h0 h1
 have e0:ttlB l.title=r0:=by simpa using h0
 have e1:fcmB l.drop=r1:=by simpa using h1
 refine⟨?_,?_,l.evs,rfl⟩
 ·rw [← e0];unfold ttlB;simp
 ·rw [← e1]
  cases l.drop with
  | true=>exact (decide_eq_true rfl).symm
  | false=>exact (decide_eq_false (by decide)).symm
theorem isE_long {l:El} {b:Int} {s:List UInt8} (h:IsE l b s):3≤(dvG 10 [] s).length∧∀ r0,(dvG 10 [] s)[0]?=some r0→7≤r0.length:=by
 rw [isE_rows h]
 refine⟨by simp,fun r0 h0=>?_⟩
 have e0:ttlB l.title=r0:=by simpa using h0
 rw [← e0];unfold ttlB;simp
theorem isE_ok {l:El} {b:Int} {s:List UInt8} (h:IsE l b s):C19.okB b l.drop=true:=by
 obtain⟨hv,hb,hf⟩:=h
 have:=(vEl_parts hv).1
 rwa [hb] at this
theorem Jr.step {b:Int} {s:List UInt8} {title:ByteArray} {drop:Bool} {acc:List Ev} {line:List UInt8} {e:Ev} {ok:Bool} (h:Jr b s title drop acc) (hl:(dvG 10 [] s)[acc.length+2]?=some line) (hk:acc.length+3<(dvG 10 [] s).length) (he:PeB b drop line e ok) :
  (∀ l,IsE l b s→ok=true)∧Jr b s title drop (acc ++ [e]):=by
 have key:∀ l,IsE l b s→ok=true∧l.title=title∧l.drop=drop∧∃ more,l.evs=(acc ++ [e]) ++ more:=by
  intro l hE
  obtain⟨h1,h2,more,h3⟩:=h l hE
  have hr:=isE_rows hE
  have ho:=isE_ok hE
  obtain⟨hv,hb,hf⟩:=hE
  obtain⟨v1,v2,v3,v4⟩:=vEl_parts hv
  rw [hb,h2] at v4
  rw [h2] at hr ho
  have hlen:=congrArg List.length hr
  rw [hr] at hl hk
  simp only [List.length_cons,List.length_append,evLs_length,List.length_nil] at hk
  rw [h3] at v3 v4 hk hl
  cases more with
  | nil=>simp at hk
  | cons x r=>
   obtain⟨m,hm0,hm⟩:=vEvs_split (by omega) v4
   obtain⟨hx,_⟩:=vEvs_cons.1 hm
   rw [List.length_append,List.length_cons] at v3
   have hi:acc.length<(acc ++ x :: r).length:=by simp
   have hg:=evLs_get b drop (acc ++ x :: r) 1 acc.length hi
   have hq:(acc ++ x :: r)[acc.length]=x:=by simp
   rw [hq] at hg
   have hl2:(evLs b drop 1 (acc ++ x :: r) ++ [[]])[acc.length]?=some line:=by
    have:(ttlB l.title :: fcmB drop :: (evLs b drop 1 (acc ++ x :: r) ++ [[]]))[acc.length+2]?=(evLs b drop 1 (acc ++ x :: r) ++ [[]])[acc.length]?:=rfl
    rw [← this];exact hl
   rw [List.getElem?_append_left (by rw [evLs_length];exact hi),hg] at hl2
   injection hl2 with hl2
   obtain⟨e1,e2⟩:=he (1+acc.length) x m ho (by omega) (by omega) hm0 hx hl2
   exact⟨e1,h1,h2,r,by rw [h3,e2];simp⟩
 exact⟨fun l hE=>(key l hE).1,fun l hE=>(key l hE).2⟩
theorem Jr.end {b:Int} {s:List UInt8} {title:ByteArray} {drop:Bool} {acc:List Ev} (h:Jr b s title drop acc) (hk:(dvG 10 [] s).length≤acc.length+3):∀ l,IsE l b s→l=⟨title,b,drop,acc⟩:=by
 intro l hE
 obtain⟨h1,h2,more,h3⟩:=h l hE
 have hr:=isE_rows hE
 have hlen:=congrArg List.length hr
 simp only [List.length_cons,List.length_append,evLs_length,List.length_nil] at hlen
 rw [h3,List.length_append] at hlen
 have:more=[]:=List.eq_nil_of_length_eq_zero (by omega)
 subst this
 rw [List.append_nil] at h3
 obtain⟨t,bb,d,es⟩:=l
 obtain⟨_,hb,_⟩:=hE
 simp only at h1 h2 h3 hb
 rw [h1,h2,h3,hb]
theorem PlR.of {b:Int} {s:List UInt8} {l0:El} (hb:l0.base=b) (h:∀ l,IsE l b s→l=l0) :
  (vEl l0=true∧fmtB l0=s→PlR b s l0 0)∧(¬ (vEl l0=true∧fmtB l0=s)→PlR b s ⟨⟨#[]⟩,0,false,[]⟩ 3):=by
 refine⟨fun hh=>.inl ⟨rfl,⟨hh.1,hb,hh.2⟩,h⟩,fun hh=>.inr ⟨rfl,rfl,fun l' hE=>hh ?_⟩⟩
 have:=h l' hE
 subst this
 exact⟨hE.1,hE.2.2⟩
theorem PlR.none {b:Int} {s:List UInt8} (h:∀ l,¬ IsE l b s):PlR b s ⟨⟨#[]⟩,0,false,[]⟩ 3:=.inr ⟨rfl,rfl,h⟩
end Go.Proofs.YtgbiodnfpbhjiaaGreatDoor

namespace Go.Proofs.YtgbiodnfpbhjiaaGreatDoor
open Go.RowKit Go.Lib
set_option linter.unusedSimpArgs false
set_option linter.unusedVariables false
end Go.Proofs.YtgbiodnfpbhjiaaGreatDoor

namespace Go.Proofs.YtgbiodnfpbhjiaaGreatDoor
open Go.RowKit Go.Lib
set_option linter.unusedSimpArgs false
set_option linter.unusedVariables false
theorem eflat_cons (e:Ev) (es:List Ev):eflat (e :: es)=e.cells ++ eflat es:=rfl
end Go.Proofs.YtgbiodnfpbhjiaaGreatDoor

namespace Go.Proofs.YtgbiodnfpbhjiaaGreatDoor
open Go.RowKit
set_option linter.unusedVariables false
section
variable {P:Program} {ops:Array Oper} {md:Region.Mode} {Q:Exit→Act→World→Prop}
def PureG (P:Program) (ops:Array Oper) (S:World→Prop) (o:Oper) (v:Value) (a:Act):Prop:=
 (Region.wanted o (yielded ops a.tmps)=true∧∀ w,S w→(execOp a.eval o).run P w=.ok (.value v) w)∨(Region.wanted o (yielded ops a.tmps)=false∧v=undef)
theorem PureG.wpOp {S:World→Prop} {i:Nat} {o:Oper} {v:Value} {a:Act} {w:World} {K:Act→World→Prop} (hi:ops[i]?=some o) (h:PureG P ops S o v a) (hw:S w) (hK:K (a.put o.dst v) w):wpOp P ops Q i K a w:=by
 unfold Go.wpOp
 simp only [hi]
 rcases h with ⟨h1,h2⟩ | ⟨h1,rfl⟩
 ·rw [h1]
  simp only [if_true]
  refine .inl ?_
  unfold Oper.wp
  rw [h2 w hw]
  exact hK
 ·rw [h1]
  simpa using hK
theorem PureG.of_same {S:World→Prop} {o:Oper} {v:Value} {a a':Act} (hy:PureG P ops S o v a) (he:execOp a'.eval o=execOp a.eval o)
  (hw:Region.wanted o (yielded ops a'.tmps)=Region.wanted o (yielded ops a.tmps)):PureG P ops S o v a':=by
 unfold PureG at *
 rw [he,hw]
 exact hy
end
open Go.RowKit Go.Lib
set_option linter.unusedSimpArgs false
structure Kp (W:World) (L:Nat) (wr:World):Prop where
 sz:W.heap.size≤wr.heap.size
 at_:∀ b o,b<W.heap.size→¬ (b=L∧o=3)→wr.cell? ⟨b,o,none⟩=W.cell? ⟨b,o,none⟩
theorem Kp.refl (W:World) (L:Nat):Kp W L W:=⟨Nat.le_refl _,fun _ _ _ _=>rfl⟩
theorem Kp.gr {W:World} {L:Nat} {wr wx:World} (h:Kp W L wr) (hg:Gr wr wx):Kp W L wx:=
 ⟨Nat.le_trans h.sz hg.size,fun b o hb hn=>by rw [hg.cells.1 b o (Nat.lt_of_lt_of_le hb h.sz)];exact h.at_ b o hb hn⟩
theorem Kp.grown {W:World} {L g:Nat} {wr wx:World} (h:Kp W L wr) (hg:wr.grownBy wx (some g)) (hb:W.heap.size≤g):Kp W L wx:=by
 refine⟨Nat.le_trans h.sz hg.size,fun b o hb2 hn=>?_⟩
 rw [← h.at_ b o hb2 hn]
 exact World.cell?_of_block (a:=⟨b,o,none⟩) (hg.block b (Nat.lt_of_lt_of_le hb2 h.sz) (by intro e;injection e with e;omega))
theorem Kp.put {W:World} {L:Nat} {wr:World} (h:Kp W L wr) (u:Value):Kp W L (wr.setCell ⟨L,3,none⟩ u):=by
 refine⟨by simpa using h.sz,fun b o hb hn=>?_⟩
 rw [← h.at_ b o hb hn]
 exact World.cell?_setCell_other _ _ _ _ (by intro e;simp only [Addr.mk.injEq] at e;exact hn (by first | exact⟨e.1.symm,e.2.1.symm⟩ | exact⟨e.1,e.2.1⟩))
theorem Kp.rd {W:World} {L:Nat} {wr:World} (h:Kp W L wr) {v:Value} {n:Nat} {xs:List Value} (hr:Rd W v n 1 xs) (hL:∀ u,W.cell? ⟨L,3,none⟩=some u→u∉xs):Rd wr v n 1 xs:=by
 obtain⟨hl,a,cap,rfl,h0⟩:=hr
 refine⟨hl,a,cap,rfl,?_⟩
 rcases h0 with h0 | ⟨b,o,rfl,hb,hc⟩
 ·exact .inl h0
 ·refine .inr ⟨b,o,rfl,Nat.lt_of_lt_of_le hb h.sz,fun j u hu=>?_⟩
  have h1:=hc j u hu
  rw [h.at_ b _ hb fun e=>?_]
  ·exact h1
  ·obtain⟨e1,e2⟩:=e
   subst e1
   rw [e2] at h1
   exact hL u h1 (List.mem_of_getElem? hu)
theorem Kp.trk {W:World} {L:Nat} {wr:World} (h:Kp W L wr) {v:Value} {cs:List CM} (ht:TrR W v cs) {T:TypeId} {p q r s:Value} (hb:Blk W L T [p,q,r,s]) (hs:∀ y:Int,Value.int .i64 y≠s):TrR wr v cs:=by
 refine⟨?_,fun c hc=>h.rd (ht.ch c hc) fun u hu hm=>?_⟩
 ·obtain⟨hl,a,cap,rfl,h0⟩:=ht.rd
  refine⟨hl,a,cap,rfl,?_⟩
  rcases h0 with h0 | ⟨b,o,rfl,hlt,hc⟩
  ·exact .inl h0
  ·cases cs with
   | nil=>exact .inl ⟨rfl,fun e=>by cases e⟩
   | cons c cs=>
    refine .inr ⟨b,o,rfl,Nat.lt_of_lt_of_le hlt h.sz,fun j u hu=>?_⟩
    rw [h.at_ b _ hlt fun e=>?_]
    ·exact hc j u hu
    ·obtain⟨e1,_⟩:=e
     subst e1
     have h1:=hc 21 c.cv rfl
     rw [hb.cell] at h1
     rw [List.getElem?_eq_none (by simp)] at h1
     cases h1
 ·rw [hb.cell] at hu
  have hu:s=u:=by simpa using hu
  subst hu
  unfold intsV at hm
  obtain⟨y,_,hy⟩:=List.mem_map.1 hm
  exact hs y hy
end Go.Proofs.YtgbiodnfpbhjiaaGreatDoor
