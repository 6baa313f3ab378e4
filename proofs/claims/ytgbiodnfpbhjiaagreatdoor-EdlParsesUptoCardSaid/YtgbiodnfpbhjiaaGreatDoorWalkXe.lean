/-
  Contract of Parse of package timecode, at any text: its parts don't hang on the world.
  Conditions: none.
-/
import Derived.Test.YtgbiodnfpbhjiaaGreatDoorWalkXa
import Derived.Test.YtgbiodnfpbhjiaaGreatDoorWalkFx
import Derived.Test.YtgbiodnfpbhjiaaGreatDoorMathFp
namespace Go.Proofs.YtgbiodnfpbhjiaaGreatDoor
open Go.RowKit Go.Lib
set_option linter.unusedSimpArgs false
set_option linter.unusedVariables false
theorem parse_base (S:ByteArray) (b:Int) (w:World) (hb:C19.isB b=false) :
  Calls Tryz.prog 181 #[.string S,.int .i64 b] w fun e w'=>e=.returned (.tuple #[.agg #[.int .i64 0,.int .i64 0,.int .i64 0,.int .i64 0,.int .i64 0,.bool false],.int .i64 1])∧Gr w w':=by
 have HB:=Lib.hid (fun w=>hb ▸ C19.isBase_any b w)
 clear hb
 go_enter Tryz.func181,Tryz.ntmps181
 go_wp2_with (go_at_call 77;refine (HB.out _).mono ?_;rintro e w' ⟨rfl,rfl⟩)
 simp [bodyPost,results,Tryz.results181,go_sem]
 exact (by repeat (first | refine Gr.setCell ?_ (by first | omega | (simp;done) | (simp;omega)) _ | refine Gr.alloc ?_ _ | refine Gr.drew ?_ | refine Gr.drewN ?_ _ | with_reducible assumption | with_reducible exact Gr.refl _ | refine Gr.trans ?_ (by with_reducible assumption)))
theorem parse_size (S:ByteArray) (b:Int) (w:World) (hb:C19.isB b=true) (hs:S.size≠11) :
  Calls Tryz.prog 181 #[.string S,.int .i64 b] w fun e w'=>e=.returned (.tuple #[.agg #[.int .i64 0,.int .i64 0,.int .i64 0,.int .i64 0,.int .i64 0,.bool false],.int .i64 3])∧Gr w w':=by
 have HB:=Lib.hid (fun w=>hb ▸ C19.isBase_any b w)
 have q:((S.size:Int) != 11)=true:=by simp;omega
 clear hb
 go_enter Tryz.func181,Tryz.ntmps181
 go_wp2_with (go_at_call 77;refine (HB.out _).mono ?_;rintro e w' ⟨rfl,rfl⟩)
 simp [bodyPost,results,Tryz.results181,go_sem]
 exact (by repeat (first | refine Gr.setCell ?_ (by first | omega | (simp;done) | (simp;omega)) _ | refine Gr.alloc ?_ _ | refine Gr.drew ?_ | refine Gr.drewN ?_ _ | with_reducible assumption | with_reducible exact Gr.refl _ | refine Gr.trans ?_ (by with_reducible assumption)))
def dg2 (x y:UInt8):Prop:=48≤x.toNat∧x.toNat≤57∧48≤y.toNat∧y.toNat≤57
set_option maxRecDepth 100000 in
set_option maxHeartbeats 4000000 in
theorem parse_bad (S:ByteArray) (b:Int) (w:World) (hb:C19.isB b=true) (hS:S.size=11)
  (hbad:¬ (dg2 (S[0]'(by omega)) (S[1]'(by omega))∧dg2 (S[3]'(by omega)) (S[4]'(by omega))∧dg2 (S[6]'(by omega)) (S[7]'(by omega))∧dg2 (S[9]'(by omega)) (S[10]'(by omega))∧(S[2]'(by omega)).toNat=58∧(S[5]'(by omega)).toNat=58∧((S[8]'(by omega)).toNat=58∨(S[8]'(by omega)).toNat=59))) :
  Calls Tryz.prog 181 #[.string S,.int .i64 b] w fun e w'=>e=.returned (.tuple #[.agg #[.int .i64 0,.int .i64 0,.int .i64 0,.int .i64 0,.int .i64 0,.bool false],.int .i64 3])∧Gr w w':=by
 have HB:=Lib.hid (fun w=>hb ▸ C19.isBase_any b w)
 replace hbad:=Lib.hid hbad
 clear hb
 go_enter Tryz.func181,Tryz.ntmps181
 go_wp2_with (go_at_call 77;refine (HB.out _).mono ?_;rintro e w' ⟨rfl,rfl⟩)
 refine wp_loop_rounds 5 ?_
 rw [rounds_succ]
 go_wp2
 go_quiet (fail)
 by_cases d0:dg2 (S[0]'(by omega)) (S[1]'(by omega))
 case neg=>
  have hx:((S[0]'(by omega)).toNat:Int)<48∨((48:Int)≤((S[0]'(by omega)).toNat:Int)∧(57:Int)<((S[0]'(by omega)).toNat:Int))∨((48:Int)≤((S[0]'(by omega)).toNat:Int)∧((S[0]'(by omega)).toNat:Int)≤57∧((S[1]'(by omega)).toNat:Int)<48)∨((48:Int)≤((S[0]'(by omega)).toNat:Int)∧((S[0]'(by omega)).toNat:Int)≤57∧(48:Int)≤((S[1]'(by omega)).toNat:Int)∧(57:Int)<((S[1]'(by omega)).toNat:Int)):=by
   unfold dg2 at d0
   omega
  clear d0
  rcases hx with h1 | ⟨h1,h2⟩ | ⟨h1,h2,h3⟩ | ⟨h1,h2,h3,h4⟩
  all_goals
   go_wp2
   simp [bodyPost,results,Tryz.results181,go_sem]
   exact (by repeat (first | refine Gr.setCell ?_ (by first | omega | (simp;done) | (simp;omega)) _ | refine Gr.alloc ?_ _ | refine Gr.drew ?_ | refine Gr.drewN ?_ _ | with_reducible assumption | with_reducible exact Gr.refl _ | refine Gr.trans ?_ (by with_reducible assumption)))
 obtain⟨a0l,a0h,a1l,a1h⟩:=d0
 have a0i:(48:Int)≤((S[0]'(by omega)).toNat:Int)∧((S[0]'(by omega)).toNat:Int)≤57:=by omega
 have a1i:(48:Int)≤((S[1]'(by omega)).toNat:Int)∧((S[1]'(by omega)).toNat:Int)≤57:=by omega
 go_wp2
 rw [rounds_succ]
 go_wp2
 go_quiet (fail)
 by_cases d1:dg2 (S[3]'(by omega)) (S[4]'(by omega))
 case neg=>
  have hx:((S[3]'(by omega)).toNat:Int)<48∨((48:Int)≤((S[3]'(by omega)).toNat:Int)∧(57:Int)<((S[3]'(by omega)).toNat:Int))∨((48:Int)≤((S[3]'(by omega)).toNat:Int)∧((S[3]'(by omega)).toNat:Int)≤57∧((S[4]'(by omega)).toNat:Int)<48)∨((48:Int)≤((S[3]'(by omega)).toNat:Int)∧((S[3]'(by omega)).toNat:Int)≤57∧(48:Int)≤((S[4]'(by omega)).toNat:Int)∧(57:Int)<((S[4]'(by omega)).toNat:Int)):=by
   unfold dg2 at d1
   omega
  clear d1
  rcases hx with h1 | ⟨h1,h2⟩ | ⟨h1,h2,h3⟩ | ⟨h1,h2,h3,h4⟩
  all_goals
   go_wp2
   simp [bodyPost,results,Tryz.results181,go_sem]
   exact (by repeat (first | refine Gr.setCell ?_ (by first | omega | (simp;done) | (simp;omega)) _ | refine Gr.alloc ?_ _ | refine Gr.drew ?_ | refine Gr.drewN ?_ _ | with_reducible assumption | with_reducible exact Gr.refl _ | refine Gr.trans ?_ (by with_reducible assumption)))
 obtain⟨a3l,a3h,a4l,a4h⟩:=d1
 have a3i:(48:Int)≤((S[3]'(by omega)).toNat:Int)∧((S[3]'(by omega)).toNat:Int)≤57:=by omega
 have a4i:(48:Int)≤((S[4]'(by omega)).toNat:Int)∧((S[4]'(by omega)).toNat:Int)≤57:=by omega
 go_wp2
 rw [rounds_succ]
 go_wp2
 go_quiet (fail)
 by_cases d2:dg2 (S[6]'(by omega)) (S[7]'(by omega))
 case neg=>
  have hx:((S[6]'(by omega)).toNat:Int)<48∨((48:Int)≤((S[6]'(by omega)).toNat:Int)∧(57:Int)<((S[6]'(by omega)).toNat:Int))∨((48:Int)≤((S[6]'(by omega)).toNat:Int)∧((S[6]'(by omega)).toNat:Int)≤57∧((S[7]'(by omega)).toNat:Int)<48)∨((48:Int)≤((S[6]'(by omega)).toNat:Int)∧((S[6]'(by omega)).toNat:Int)≤57∧(48:Int)≤((S[7]'(by omega)).toNat:Int)∧(57:Int)<((S[7]'(by omega)).toNat:Int)):=by
   unfold dg2 at d2
   omega
  clear d2
  rcases hx with h1 | ⟨h1,h2⟩ | ⟨h1,h2,h3⟩ | ⟨h1,h2,h3,h4⟩
  all_goals
   go_wp2
   simp [bodyPost,results,Tryz.results181,go_sem]
   exact (by repeat (first | refine Gr.setCell ?_ (by first | omega | (simp;done) | (simp;omega)) _ | refine Gr.alloc ?_ _ | refine Gr.drew ?_ | refine Gr.drewN ?_ _ | with_reducible assumption | with_reducible exact Gr.refl _ | refine Gr.trans ?_ (by with_reducible assumption)))
 obtain⟨a6l,a6h,a7l,a7h⟩:=d2
 have a6i:(48:Int)≤((S[6]'(by omega)).toNat:Int)∧((S[6]'(by omega)).toNat:Int)≤57:=by omega
 have a7i:(48:Int)≤((S[7]'(by omega)).toNat:Int)∧((S[7]'(by omega)).toNat:Int)≤57:=by omega
 go_wp2
 rw [rounds_succ]
 go_wp2
 go_quiet (fail)
 by_cases d3:dg2 (S[9]'(by omega)) (S[10]'(by omega))
 case neg=>
  have hx:((S[9]'(by omega)).toNat:Int)<48∨((48:Int)≤((S[9]'(by omega)).toNat:Int)∧(57:Int)<((S[9]'(by omega)).toNat:Int))∨((48:Int)≤((S[9]'(by omega)).toNat:Int)∧((S[9]'(by omega)).toNat:Int)≤57∧((S[10]'(by omega)).toNat:Int)<48)∨((48:Int)≤((S[9]'(by omega)).toNat:Int)∧((S[9]'(by omega)).toNat:Int)≤57∧(48:Int)≤((S[10]'(by omega)).toNat:Int)∧(57:Int)<((S[10]'(by omega)).toNat:Int)):=by
   unfold dg2 at d3
   omega
  clear d3
  rcases hx with h1 | ⟨h1,h2⟩ | ⟨h1,h2,h3⟩ | ⟨h1,h2,h3,h4⟩
  all_goals
   go_wp2
   simp [bodyPost,results,Tryz.results181,go_sem]
   exact (by repeat (first | refine Gr.setCell ?_ (by first | omega | (simp;done) | (simp;omega)) _ | refine Gr.alloc ?_ _ | refine Gr.drew ?_ | refine Gr.drewN ?_ _ | with_reducible assumption | with_reducible exact Gr.refl _ | refine Gr.trans ?_ (by with_reducible assumption)))
 obtain⟨a9l,a9h,a10l,a10h⟩:=d3
 have a9i:(48:Int)≤((S[9]'(by omega)).toNat:Int)∧((S[9]'(by omega)).toNat:Int)≤57:=by omega
 have a10i:(48:Int)≤((S[10]'(by omega)).toNat:Int)∧((S[10]'(by omega)).toNat:Int)≤57:=by omega
 go_wp2
 rw [rounds_succ]
 go_wp2
 all_goals
  first
  | (exfalso;refine hbad.out ⟨⟨by assumption,by assumption,by assumption,by assumption⟩,⟨by assumption,by assumption,by assumption,by assumption⟩,⟨by assumption,by assumption,by assumption,by assumption⟩,⟨by assumption,by assumption,by assumption,by assumption⟩,?_,?_,?_⟩ <;> simp_all <;> omega)
  | (simp [bodyPost,results,Tryz.results181,go_sem];exact (by repeat (first | refine Gr.setCell ?_ (by first | omega | (simp;done) | (simp;omega)) _ | refine Gr.alloc ?_ _ | refine Gr.drew ?_ | refine Gr.drewN ?_ _ | with_reducible assumption | with_reducible exact Gr.refl _ | refine Gr.trans ?_ (by with_reducible assumption))))
def TpR (b:Int) (S:ByteArray) (h m s f x:Int) (d:Bool) (E:Int):Prop:=∀ n d',C19.okB b d'=true→0≤n→n<C19.dayN b d'→S.data.toList=labB n b d'→E=0∧h=C19.lm n b d' / 60∧m=C19.lm n b d' % 60∧s=C19.lf n b d' / b∧f=C19.lf n b d' % b∧x=b∧d=d'
theorem fmt_bytes (h m s f:Int) (d:Bool) (S:ByteArray) (hS:S=C19.fmtS h m s f d) (h1:0≤h∧h<60) (h2:0≤m∧m<60) (h3:0≤s∧s<60) (h4:0≤f∧f<60) :
  ∃ z:S.size=11,((S[0]'(by omega)).toNat:Int)=48+h / 10∧((S[1]'(by omega)).toNat:Int)=48+h % 10∧(S[2]'(by omega)).toNat=58∧((S[3]'(by omega)).toNat:Int)=48+m / 10∧((S[4]'(by omega)).toNat:Int)=48+m % 10∧(S[5]'(by omega)).toNat=58∧((S[6]'(by omega)).toNat:Int)=48+s / 10∧((S[7]'(by omega)).toNat:Int)=48+s % 10∧(S[8]'(by omega)).toNat=(if d then 59 else 58)∧((S[9]'(by omega)).toNat:Int)=48+f / 10∧((S[10]'(by omega)).toNat:Int)=48+f % 10:=by
 subst hS
 exact⟨rfl,C19.fmt_byte (x:=48+h / 10) (by omega) (by omega),C19.fmt_byte (x:=48+h % 10) (by omega) (by omega),rfl,C19.fmt_byte (x:=48+m / 10) (by omega) (by omega),C19.fmt_byte (x:=48+m % 10) (by omega) (by omega),rfl,C19.fmt_byte (x:=48+s / 10) (by omega) (by omega),C19.fmt_byte (x:=48+s % 10) (by omega) (by omega),by cases d <;> rfl,C19.fmt_byte (x:=48+f / 10) (by omega) (by omega),C19.fmt_byte (x:=48+f % 10) (by omega) (by omega)⟩
theorem lab_parts {n b:Int} {d:Bool} (ho:C19.okB b d=true):(0≤C19.lm n b d / 60∧C19.lm n b d / 60<60)∧(0≤C19.lm n b d % 60∧C19.lm n b d % 60<60)∧(0≤C19.lf n b d / b∧C19.lf n b d / b<60)∧(0≤C19.lf n b d % b∧C19.lf n b d % b<60):=by
 obtain⟨b1,b2,_,_⟩:=C19.okB_bounds ho
 obtain⟨m1,m2,f1,f2⟩:=C19.l_bounds (n:=n) ho
 have q1:C19.lf n b d / b<60:=by
  refine Int.ediv_lt_of_lt_mul (by omega) ?_
  omega
 have q0:0≤C19.lf n b d / b:=Int.ediv_nonneg f1 (by omega)
 have r0:=Int.emod_nonneg (C19.lf n b d) (show b≠0 by omega)
 have r1:=Int.emod_lt_of_pos (C19.lf n b d) (show 0<b by omega)
 omega
theorem lab_eq {S:ByteArray} {n b:Int} {d:Bool} (h:S.data.toList=labB n b d):S=C19.fmtS (C19.lm n b d / 60) (C19.lm n b d % 60) (C19.lf n b d / b) (C19.lf n b d % b) d:=by
 have:S.data=(labS n b d).data:=Array.toList_inj.1 h
 show S=labS n b d
 cases S;cases hl:labS n b d
 rw [hl] at this
 simp only at this
 rw [this]
def n2 (x y:UInt8):Int:=((x.toNat:Int) - 48) * 10+((y.toNat:Int) - 48)
theorem parse_any (S:ByteArray) (b:Int):∃ (h m s f x:Int) (d:Bool) (E:Int),TpR b S h m s f x d E∧∀ w,Calls Tryz.prog 181 #[.string S,.int .i64 b] w fun e w'=>e=.returned (.tuple #[.agg #[.int .i64 h,.int .i64 m,.int .i64 s,.int .i64 f,.int .i64 x,.bool d],.int .i64 E])∧Gr w w':=by
 by_cases hb:C19.isB b=true
 case neg=>
  have hb:C19.isB b=false:=by simpa using hb
  refine⟨0,0,0,0,0,false,1,fun n d' ho _ _ _=>?_,fun w=>parse_base S b w hb⟩
  rw [(C19.okB_true ho).1] at hb
  cases hb
 by_cases hs:S.size=11
 case neg=>
  refine⟨0,0,0,0,0,false,3,fun n d' ho _ _ hl=>?_,fun w=>parse_size S b w hb hs⟩
  obtain⟨p1,p2,p3,p4⟩:=lab_parts (n:=n) ho
  obtain⟨z,_⟩:=fmt_bytes _ _ _ _ _ S (lab_eq hl) p1 p2 p3 p4
  exact absurd z hs
 by_cases hg:dg2 (S[0]'(by omega)) (S[1]'(by omega))∧dg2 (S[3]'(by omega)) (S[4]'(by omega))∧dg2 (S[6]'(by omega)) (S[7]'(by omega))∧dg2 (S[9]'(by omega)) (S[10]'(by omega))∧(S[2]'(by omega)).toNat=58∧(S[5]'(by omega)).toNat=58∧((S[8]'(by omega)).toNat=58∨(S[8]'(by omega)).toNat=59)
 case neg=>
  refine⟨0,0,0,0,0,false,3,fun n d' ho _ _ hl=>absurd ?_ hg,fun w=>parse_bad S b w hb hs hg⟩
  obtain⟨p1,p2,p3,p4⟩:=lab_parts (n:=n) ho
  obtain⟨z,g0,g1,g2,g3,g4,g5,g6,g7,g8,g9,g10⟩:=fmt_bytes _ _ _ _ _ S (lab_eq hl) p1 p2 p3 p4
  unfold dg2
  refine⟨by omega,by omega,by omega,by omega,g2,g5,?_⟩
  rw [g8]
  cases d' <;> simp
 obtain⟨⟨a0,a0',a1,a1'⟩,⟨a3,a3',a4,a4'⟩,⟨a6,a6',a7,a7'⟩,⟨a9,a9',a10,a10'⟩,m2,m5,m8⟩:=hg
 have key:∀ D:Bool,(S[8]'(by omega)).toNat=(if D then 59 else 58)→TpR b S (n2 (S[0]'(by omega)) (S[1]'(by omega))) (n2 (S[3]'(by omega)) (S[4]'(by omega))) (n2 (S[6]'(by omega)) (S[7]'(by omega))) (n2 (S[9]'(by omega)) (S[10]'(by omega))) b D (C19.nmE (n2 (S[0]'(by omega)) (S[1]'(by omega))) (n2 (S[3]'(by omega)) (S[4]'(by omega))) (n2 (S[6]'(by omega)) (S[7]'(by omega))) (n2 (S[9]'(by omega)) (S[10]'(by omega))) b D):=by
  intro D hD n d' ho h0 h1 hl
  obtain⟨p1,p2,p3,p4⟩:=lab_parts (n:=n) ho
  obtain⟨z,g0,g1,g2,g3,g4,g5,g6,g7,g8,g9,g10⟩:=fmt_bytes _ _ _ _ _ S (lab_eq hl) p1 p2 p3 p4
  have hDd:D=d':=by
   rw [hD] at g8
   cases D <;> cases d' <;> simp at g8 <;> rfl
  have lo:=lab_ok ho h0 h1
  generalize C19.lm n b d' / 60=lh at *
  generalize C19.lm n b d' % 60=lm at *
  generalize C19.lf n b d' / b=ls at *
  generalize C19.lf n b d' % b=lf at *
  have e1:n2 (S[0]'(by omega)) (S[1]'(by omega))=lh:=by unfold n2;omega
  have e2:n2 (S[3]'(by omega)) (S[4]'(by omega))=lm:=by unfold n2;omega
  have e3:n2 (S[6]'(by omega)) (S[7]'(by omega))=ls:=by unfold n2;omega
  have e4:n2 (S[9]'(by omega)) (S[10]'(by omega))=lf:=by unfold n2;omega
  rw [e1,e2,e3,e4,hDd]
  exact⟨lo,rfl,rfl,rfl,rfl,rfl,rfl⟩
 have bad:∀ (D:Bool) (h m s f x:Int) (E:Int),(E=1∨E=2)→TpR b S h m s f x D E→TpR b S 0 0 0 0 0 false E:=by
  intro D h m s f x E hE ht n d' ho h0 h1 hl
  have:=(ht n d' ho h0 h1 hl).1
  omega
 by_cases q58:(S[8]'(by omega)).toNat=58
 case pos=>
  have kk:=key false (by rw [q58];rfl)
  have HN:=fun w=>C19.number_any (n2 (S[0]'(by omega)) (S[1]'(by omega))) (n2 (S[3]'(by omega)) (S[4]'(by omega))) (n2 (S[6]'(by omega)) (S[7]'(by omega))) (n2 (S[9]'(by omega)) (S[10]'(by omega))) b false w
  rcases C19.nmE_cases (n2 (S[0]'(by omega)) (S[1]'(by omega))) (n2 (S[3]'(by omega)) (S[4]'(by omega))) (n2 (S[6]'(by omega)) (S[7]'(by omega))) (n2 (S[9]'(by omega)) (S[10]'(by omega))) b false with ⟨e0,_⟩ | ⟨e0,_⟩
  ·rw [e0] at HN kk
   exact⟨_,_,_,_,_,_,_,kk,fun w=>C19.parse_plain S b _ w hb hs (by omega) (by omega) (by omega) (by omega) (by omega) (by omega) (by omega) (by omega) (by omega) (by omega) (by omega) HN⟩
  ·exact⟨0,0,0,0,0,false,_,bad _ _ _ _ _ _ _ e0 kk,fun w=>parseE_plain S b _ _ w e0 hb hs (by omega) (by omega) (by omega) (by omega) (by omega) (by omega) (by omega) (by omega) (by omega) (by omega) (by omega) HN⟩
 by_cases q59:(S[8]'(by omega)).toNat=59
 case pos=>
  have kk:=key true (by rw [q59];rfl)
  have HN:=fun w=>C19.number_any (n2 (S[0]'(by omega)) (S[1]'(by omega))) (n2 (S[3]'(by omega)) (S[4]'(by omega))) (n2 (S[6]'(by omega)) (S[7]'(by omega))) (n2 (S[9]'(by omega)) (S[10]'(by omega))) b true w
  rcases C19.nmE_cases (n2 (S[0]'(by omega)) (S[1]'(by omega))) (n2 (S[3]'(by omega)) (S[4]'(by omega))) (n2 (S[6]'(by omega)) (S[7]'(by omega))) (n2 (S[9]'(by omega)) (S[10]'(by omega))) b true with ⟨e0,_⟩ | ⟨e0,_⟩
  ·rw [e0] at HN kk
   exact⟨_,_,_,_,_,_,_,kk,fun w=>C19.parse_drop S b _ w hb hs (by omega) (by omega) (by omega) (by omega) (by omega) (by omega) (by omega) (by omega) (by omega) (by omega) (by omega) HN⟩
  ·exact⟨0,0,0,0,0,false,_,bad _ _ _ _ _ _ _ e0 kk,fun w=>parseE_drop S b _ _ w e0 hb hs (by omega) (by omega) (by omega) (by omega) (by omega) (by omega) (by omega) (by omega) (by omega) (by omega) (by omega) HN⟩
 omega
end Go.Proofs.YtgbiodnfpbhjiaaGreatDoor

namespace Go.Proofs.YtgbiodnfpbhjiaaGreatDoor
open Go.RowKit Go.Lib
set_option linter.unusedSimpArgs false
set_option linter.unusedVariables false
def FrR (b:Int) (S:ByteArray) (n:Int) (ok:Bool):Prop:=∀ k d,C19.okB b d=true→0≤k→k<C19.dayN b d→S.data.toList=labB k b d→ok=true∧n=k
theorem lab_num {n b:Int} {d:Bool} (ho:C19.okB b d=true) (h0:0≤n) (h1:n<C19.dayN b d) :
  C19.nmV (C19.lm n b d / 60) (C19.lm n b d % 60) (C19.lf n b d / b) (C19.lf n b d % b) b d=n:=by
 have hq:=C19.label_num ho h0 h1
 have e:n % C19.dayN b d=n:=Int.emod_eq_of_lt h0 h1
 unfold C19.nmV C19.lm C19.lf
 rw [e,ho,hq.1,hq.2.1]
 exact hq.2.2
set_option maxRecDepth 20000 in
set_option maxHeartbeats 1000000 in
theorem pframes_core (S:ByteArray) (b h m s f x E V F:Int) (d:Bool) (w:World)
  (HP:∀ w,Calls Tryz.prog 181 #[.string S,.int .i64 b] w fun e w'=>e=.returned (.tuple #[.agg #[.int .i64 h,.int .i64 m,.int .i64 s,.int .i64 f,.int .i64 x,.bool d],.int .i64 E])∧Gr w w')
  (HN:∀ w,Calls Tryz.prog 176 #[.agg #[.int .i64 h,.int .i64 m,.int .i64 s,.int .i64 f,.int .i64 x,.bool d]] w fun e w'=>e=.returned (.tuple #[.int .i64 V,.int .i64 F])∧Gr w w') :
  Calls Tryz.prog 142 #[.string S,.int .i64 b] w fun e w'=>e=.returned (.tuple #[.int .i64 (if E=0 then V else 0),.bool (decide (E=0∧F=0))])∧Gr w w':=by
 replace HP:=Lib.hid HP
 replace HN:=Lib.hid HN
 by_cases hE:E=0
 ·have q:(E != 0)=false:=by simp [hE]
  have qF:(F == 0)=decide (E=0∧F=0):=by by_cases h:F=0 <;> simp [hE,h]
  rw [if_pos hE,← qF]
  replace hE:=Lib.hid hE
  clear qF
  go_enter Tryz.func142,Tryz.ntmps142
  go_wp2_with (first
   | (go_at_call 181;refine (HP.out _).mono ?_;rintro e w1 ⟨rfl,hg1⟩;obtain⟨hc1,hf1⟩:=hg1.cells;have hz1:=hg1.size;(try simp at hz1);(try have hl1_0_0:w.heap.size<w1.heap.size:=by omega);(try have hm1_0_0:w.heap.size≤w1.heap.size:=by omega);(try have hl1_0_1:w.heap.size+1<w1.heap.size:=by omega);(try have hl1_0_2:w.heap.size+2<w1.heap.size:=by omega))
   | (go_at_call 176;refine (HN.out _).mono ?_;rintro e w2 ⟨rfl,hg2⟩;obtain⟨hc2,hf2⟩:=hg2.cells;have hz2:=hg2.size;(try simp at hz2);(try have hl2_0_0:w.heap.size<w2.heap.size:=by omega);(try have hm2_0_0:w.heap.size≤w2.heap.size:=by omega);(try have hl2_0_1:w.heap.size+1<w2.heap.size:=by omega);(try have hl2_0_2:w.heap.size+2<w2.heap.size:=by omega);(try have hl2_1_0:w1.heap.size<w2.heap.size:=by omega);(try have hm2_1_0:w1.heap.size≤w2.heap.size:=by omega);(try have hl2_1_1:w1.heap.size+1<w2.heap.size:=by omega);(try have hl2_1_2:w1.heap.size+2<w2.heap.size:=by omega)))
  simp [bodyPost,results,Tryz.results142,go_sem]
  exact (by repeat (first | refine Gr.setCell ?_ (by first | omega | (simp;done) | (simp;omega)) _ | refine Gr.alloc ?_ _ | refine Gr.drew ?_ | refine Gr.drewN ?_ _ | with_reducible assumption | with_reducible exact Gr.refl _ | refine Gr.trans ?_ (by with_reducible assumption)))
 ·have q:(E != 0)=true:=by simp [hE]
  rw [if_neg hE,show decide (E=0∧F=0)=false by simp [hE]]
  replace hE:=Lib.hid hE
  go_enter Tryz.func142,Tryz.ntmps142
  go_wp2_with (go_at_call 181;refine (HP.out _).mono ?_;rintro e w1 ⟨rfl,hg1⟩;obtain⟨hc1,hf1⟩:=hg1.cells;have hz1:=hg1.size;(try simp at hz1);(try have hl1_0_0:w.heap.size<w1.heap.size:=by omega);(try have hm1_0_0:w.heap.size≤w1.heap.size:=by omega);(try have hl1_0_1:w.heap.size+1<w1.heap.size:=by omega);(try have hl1_0_2:w.heap.size+2<w1.heap.size:=by omega))
  simp [bodyPost,results,Tryz.results142,go_sem]
  exact (by repeat (first | refine Gr.setCell ?_ (by first | omega | (simp;done) | (simp;omega)) _ | refine Gr.alloc ?_ _ | refine Gr.drew ?_ | refine Gr.drewN ?_ _ | with_reducible assumption | with_reducible exact Gr.refl _ | refine Gr.trans ?_ (by with_reducible assumption)))
theorem pframes_any (S:ByteArray) (b:Int):∃ (n:Int) (ok:Bool),FrR b S n ok∧∀ w,Calls Tryz.prog 142 #[.string S,.int .i64 b] w fun e w'=>e=.returned (.tuple #[.int .i64 n,.bool ok])∧Gr w w':=by
 obtain⟨h,m,s,f,x,d,E,hT,HP⟩:=parse_any S b
 refine⟨_,_,?_,fun w=>pframes_core S b h m s f x E _ _ d w HP (fun w=>C19.number_any h m s f x d w)⟩
 intro k d' ho h0 h1 hl
 obtain⟨rfl,rfl,rfl,rfl,rfl,rfl,rfl⟩:=hT k d' ho h0 h1 hl
 rw [if_pos rfl,lab_num ho h0 h1,lab_ok ho h0 h1]
 exact⟨rfl,rfl⟩
end Go.Proofs.YtgbiodnfpbhjiaaGreatDoor

namespace Go.Proofs.YtgbiodnfpbhjiaaGreatDoor
open Go.RowKit Go.Lib
set_option linter.unusedSimpArgs false
set_option linter.unusedVariables false
set_option maxRecDepth 100000 in
set_option maxHeartbeats 4000000 in
theorem rnumbers_any (S:ByteArray) (w:World) (hS:S.size=11) (d0:dg2 (S[0]'(by omega)) (S[1]'(by omega))) (d1:dg2 (S[3]'(by omega)) (S[4]'(by omega))) (d2:dg2 (S[6]'(by omega)) (S[7]'(by omega))) (d3:dg2 (S[9]'(by omega)) (S[10]'(by omega))) :
  Calls Tryz.prog 182 #[.string S] w fun e w'=>e=.returned (.agg #[.int .i64 (n2 (S[0]'(by omega)) (S[1]'(by omega))),.int .i64 (n2 (S[3]'(by omega)) (S[4]'(by omega))),.int .i64 (n2 (S[6]'(by omega)) (S[7]'(by omega))),.int .i64 (n2 (S[9]'(by omega)) (S[10]'(by omega)))])∧Gr w w':=by
 unfold n2
 obtain⟨a0l,a0h,a1l,a1h⟩:=d0
 have a0i:(48:Int)≤((S[0]'(by omega)).toNat:Int)∧((S[0]'(by omega)).toNat:Int)≤57:=by omega
 have a1i:(48:Int)≤((S[1]'(by omega)).toNat:Int)∧((S[1]'(by omega)).toNat:Int)≤57:=by omega
 obtain⟨a3l,a3h,a4l,a4h⟩:=d1
 have a3i:(48:Int)≤((S[3]'(by omega)).toNat:Int)∧((S[3]'(by omega)).toNat:Int)≤57:=by omega
 have a4i:(48:Int)≤((S[4]'(by omega)).toNat:Int)∧((S[4]'(by omega)).toNat:Int)≤57:=by omega
 obtain⟨a6l,a6h,a7l,a7h⟩:=d2
 have a6i:(48:Int)≤((S[6]'(by omega)).toNat:Int)∧((S[6]'(by omega)).toNat:Int)≤57:=by omega
 have a7i:(48:Int)≤((S[7]'(by omega)).toNat:Int)∧((S[7]'(by omega)).toNat:Int)≤57:=by omega
 obtain⟨a9l,a9h,a10l,a10h⟩:=d3
 have a9i:(48:Int)≤((S[9]'(by omega)).toNat:Int)∧((S[9]'(by omega)).toNat:Int)≤57:=by omega
 have a10i:(48:Int)≤((S[10]'(by omega)).toNat:Int)∧((S[10]'(by omega)).toNat:Int)≤57:=by omega
 go_enter Tryz.func182,Tryz.ntmps182
 go_wp2
 refine wp_loop_rounds 5 ?_
 rw [rounds_succ]
 go_wp2
 go_region
 go_wp2
 rw [rounds_succ]
 go_wp2
 go_region
 go_wp2
 rw [rounds_succ]
 go_wp2
 go_region
 go_wp2
 rw [rounds_succ]
 go_wp2
 go_region
 go_wp2
 rw [rounds_succ]
 go_wp2
 simp [bodyPost,results,Tryz.results182,go_sem]
 exact (by repeat (first | refine Gr.setCell ?_ (by first | omega | (simp;done) | (simp;omega)) _ | refine Gr.alloc ?_ _ | refine Gr.drew ?_ | refine Gr.drewN ?_ _ | with_reducible assumption | with_reducible exact Gr.refl _ | refine Gr.trans ?_ (by with_reducible assumption)))
theorem rparse_base (S:ByteArray) (b:Int) (w:World) (hb:C19.isB b=false) :
  Calls Tryz.prog 143 #[.string S,.int .i64 b] w fun e w'=>e=.returned (.tuple #[.agg #[.int .i64 0,.int .i64 0,.int .i64 0,.int .i64 0,.int .i64 0,.bool false],.int .i64 1])∧Gr w w':=by
 have HB:=Lib.hid (fun w=>hb ▸ C19.known_any b w)
 clear hb
 go_enter Tryz.func143,Tryz.ntmps143
 go_wp2_with (go_at_call 82;refine (HB.out _).mono ?_;rintro e w' ⟨rfl,rfl⟩)
 simp [bodyPost,results,Tryz.results143,go_sem]
 exact (by repeat (first | refine Gr.setCell ?_ (by first | omega | (simp;done) | (simp;omega)) _ | refine Gr.alloc ?_ _ | refine Gr.drew ?_ | refine Gr.drewN ?_ _ | with_reducible assumption | with_reducible exact Gr.refl _ | refine Gr.trans ?_ (by with_reducible assumption)))
theorem rparse_size (S:ByteArray) (b:Int) (w:World) (hb:C19.isB b=true) (hs:S.size≠11) :
  Calls Tryz.prog 143 #[.string S,.int .i64 b] w fun e w'=>e=.returned (.tuple #[.agg #[.int .i64 0,.int .i64 0,.int .i64 0,.int .i64 0,.int .i64 0,.bool false],.int .i64 3])∧Gr w w':=by
 have HB:=Lib.hid (fun w=>hb ▸ C19.known_any b w)
 have q:((S.size:Int) != 11)=true:=by simp;omega
 clear hb
 go_enter Tryz.func143,Tryz.ntmps143
 go_wp2_with (go_at_call 82;refine (HB.out _).mono ?_;rintro e w' ⟨rfl,rfl⟩)
 simp [bodyPost,results,Tryz.results143,go_sem]
 exact (by repeat (first | refine Gr.setCell ?_ (by first | omega | (simp;done) | (simp;omega)) _ | refine Gr.alloc ?_ _ | refine Gr.drew ?_ | refine Gr.drewN ?_ _ | with_reducible assumption | with_reducible exact Gr.refl _ | refine Gr.trans ?_ (by with_reducible assumption)))
end Go.Proofs.YtgbiodnfpbhjiaaGreatDoor
