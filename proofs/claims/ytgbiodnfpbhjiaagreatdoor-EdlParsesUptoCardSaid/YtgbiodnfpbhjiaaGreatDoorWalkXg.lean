/-
  Contract of Parse of the reference of timecodes, at a text of a wrong form.
  Conditions: none.
-/
import Derived.Test.YtgbiodnfpbhjiaaGreatDoorWalkXe
namespace Go.Proofs.YtgbiodnfpbhjiaaGreatDoor
open Go.RowKit Go.Lib
set_option linter.unusedSimpArgs false
set_option linter.unusedVariables false
set_option maxRecDepth 100000 in
set_option maxHeartbeats 4000000 in
theorem rparse_bad58 (S:ByteArray) (b:Int) (w:World) (hb:C19.isB b=true) (hS:S.size=11)
  (m8:((S[8]'(by omega)).toNat:Int)=58)
  (hbad:¬ (dg2 (S[0]'(by omega)) (S[1]'(by omega))∧dg2 (S[3]'(by omega)) (S[4]'(by omega))∧dg2 (S[6]'(by omega)) (S[7]'(by omega))∧dg2 (S[9]'(by omega)) (S[10]'(by omega))∧(S[2]'(by omega)).toNat=58∧(S[5]'(by omega)).toNat=58∧((S[8]'(by omega)).toNat=58∨(S[8]'(by omega)).toNat=59))) :
  Calls Tryz.prog 143 #[.string S,.int .i64 b] w fun e w'=>e=.returned (.tuple #[.agg #[.int .i64 0,.int .i64 0,.int .i64 0,.int .i64 0,.int .i64 0,.bool false],.int .i64 3])∧Gr w w':=by
 have HB:=Lib.hid (fun w=>hb ▸ C19.known_any b w)
 replace hbad:=Lib.hid hbad
 clear hb
 go_enter Tryz.func143,Tryz.ntmps143
 go_wp2_with (go_at_call 82;refine (HB.out _).mono ?_;rintro e w' ⟨rfl,rfl⟩)
 refine wp_loop_rounds 12 ?_
 rw [rounds_succ]
 by_cases d0:(48:Int)≤((S[0]'(by omega)).toNat:Int)∧((S[0]'(by omega)).toNat:Int)≤57
 case neg=>
  rcases (show ((S[0]'(by omega)).toNat:Int)<48∨((48:Int)≤((S[0]'(by omega)).toNat:Int)∧(57:Int)<((S[0]'(by omega)).toNat:Int)) by omega) with h1 | ⟨h1,h2⟩
  all_goals
   go_wp2
   simp [bodyPost,results,Tryz.results143,go_sem]
   exact (by repeat (first | refine Gr.setCell ?_ (by first | omega | (simp;done) | (simp;omega)) _ | refine Gr.alloc ?_ _ | refine Gr.drew ?_ | refine Gr.drewN ?_ _ | with_reducible assumption | with_reducible exact Gr.refl _ | refine Gr.trans ?_ (by with_reducible assumption)))
 obtain⟨l0,u0⟩:=d0
 go_wp2
 rw [rounds_succ]
 by_cases d1:(48:Int)≤((S[1]'(by omega)).toNat:Int)∧((S[1]'(by omega)).toNat:Int)≤57
 case neg=>
  rcases (show ((S[1]'(by omega)).toNat:Int)<48∨((48:Int)≤((S[1]'(by omega)).toNat:Int)∧(57:Int)<((S[1]'(by omega)).toNat:Int)) by omega) with h1 | ⟨h1,h2⟩
  all_goals
   go_wp2
   simp [bodyPost,results,Tryz.results143,go_sem]
   exact (by repeat (first | refine Gr.setCell ?_ (by first | omega | (simp;done) | (simp;omega)) _ | refine Gr.alloc ?_ _ | refine Gr.drew ?_ | refine Gr.drewN ?_ _ | with_reducible assumption | with_reducible exact Gr.refl _ | refine Gr.trans ?_ (by with_reducible assumption)))
 obtain⟨l1,u1⟩:=d1
 go_wp2
 rw [rounds_succ]
 by_cases d2:((S[2]'(by omega)).toNat:Int)=58
 case neg=>
  have q:(((S[2]'(by omega)).toNat:Int) != 58)=true:=by simp;omega
  go_wp2
  all_goals
   simp [bodyPost,results,Tryz.results143,go_sem]
   exact (by repeat (first | refine Gr.setCell ?_ (by first | omega | (simp;done) | (simp;omega)) _ | refine Gr.alloc ?_ _ | refine Gr.drew ?_ | refine Gr.drewN ?_ _ | with_reducible assumption | with_reducible exact Gr.refl _ | refine Gr.trans ?_ (by with_reducible assumption)))
 have q2:(((S[2]'(by omega)).toNat:Int) != 58)=false:=by simp;omega
 go_wp2
 rw [rounds_succ]
 by_cases d3:(48:Int)≤((S[3]'(by omega)).toNat:Int)∧((S[3]'(by omega)).toNat:Int)≤57
 case neg=>
  rcases (show ((S[3]'(by omega)).toNat:Int)<48∨((48:Int)≤((S[3]'(by omega)).toNat:Int)∧(57:Int)<((S[3]'(by omega)).toNat:Int)) by omega) with h1 | ⟨h1,h2⟩
  all_goals
   go_wp2
   simp [bodyPost,results,Tryz.results143,go_sem]
   exact (by repeat (first | refine Gr.setCell ?_ (by first | omega | (simp;done) | (simp;omega)) _ | refine Gr.alloc ?_ _ | refine Gr.drew ?_ | refine Gr.drewN ?_ _ | with_reducible assumption | with_reducible exact Gr.refl _ | refine Gr.trans ?_ (by with_reducible assumption)))
 obtain⟨l3,u3⟩:=d3
 go_wp2
 rw [rounds_succ]
 by_cases d4:(48:Int)≤((S[4]'(by omega)).toNat:Int)∧((S[4]'(by omega)).toNat:Int)≤57
 case neg=>
  rcases (show ((S[4]'(by omega)).toNat:Int)<48∨((48:Int)≤((S[4]'(by omega)).toNat:Int)∧(57:Int)<((S[4]'(by omega)).toNat:Int)) by omega) with h1 | ⟨h1,h2⟩
  all_goals
   go_wp2
   simp [bodyPost,results,Tryz.results143,go_sem]
   exact (by repeat (first | refine Gr.setCell ?_ (by first | omega | (simp;done) | (simp;omega)) _ | refine Gr.alloc ?_ _ | refine Gr.drew ?_ | refine Gr.drewN ?_ _ | with_reducible assumption | with_reducible exact Gr.refl _ | refine Gr.trans ?_ (by with_reducible assumption)))
 obtain⟨l4,u4⟩:=d4
 go_wp2
 rw [rounds_succ]
 by_cases d5:((S[5]'(by omega)).toNat:Int)=58
 case neg=>
  have q:(((S[5]'(by omega)).toNat:Int) != 58)=true:=by simp;omega
  go_wp2
  all_goals
   simp [bodyPost,results,Tryz.results143,go_sem]
   exact (by repeat (first | refine Gr.setCell ?_ (by first | omega | (simp;done) | (simp;omega)) _ | refine Gr.alloc ?_ _ | refine Gr.drew ?_ | refine Gr.drewN ?_ _ | with_reducible assumption | with_reducible exact Gr.refl _ | refine Gr.trans ?_ (by with_reducible assumption)))
 have q5:(((S[5]'(by omega)).toNat:Int) != 58)=false:=by simp;omega
 go_wp2
 rw [rounds_succ]
 by_cases d6:(48:Int)≤((S[6]'(by omega)).toNat:Int)∧((S[6]'(by omega)).toNat:Int)≤57
 case neg=>
  rcases (show ((S[6]'(by omega)).toNat:Int)<48∨((48:Int)≤((S[6]'(by omega)).toNat:Int)∧(57:Int)<((S[6]'(by omega)).toNat:Int)) by omega) with h1 | ⟨h1,h2⟩
  all_goals
   go_wp2
   simp [bodyPost,results,Tryz.results143,go_sem]
   exact (by repeat (first | refine Gr.setCell ?_ (by first | omega | (simp;done) | (simp;omega)) _ | refine Gr.alloc ?_ _ | refine Gr.drew ?_ | refine Gr.drewN ?_ _ | with_reducible assumption | with_reducible exact Gr.refl _ | refine Gr.trans ?_ (by with_reducible assumption)))
 obtain⟨l6,u6⟩:=d6
 go_wp2
 rw [rounds_succ]
 by_cases d7:(48:Int)≤((S[7]'(by omega)).toNat:Int)∧((S[7]'(by omega)).toNat:Int)≤57
 case neg=>
  rcases (show ((S[7]'(by omega)).toNat:Int)<48∨((48:Int)≤((S[7]'(by omega)).toNat:Int)∧(57:Int)<((S[7]'(by omega)).toNat:Int)) by omega) with h1 | ⟨h1,h2⟩
  all_goals
   go_wp2
   simp [bodyPost,results,Tryz.results143,go_sem]
   exact (by repeat (first | refine Gr.setCell ?_ (by first | omega | (simp;done) | (simp;omega)) _ | refine Gr.alloc ?_ _ | refine Gr.drew ?_ | refine Gr.drewN ?_ _ | with_reducible assumption | with_reducible exact Gr.refl _ | refine Gr.trans ?_ (by with_reducible assumption)))
 obtain⟨l7,u7⟩:=d7
 go_wp2
 rw [rounds_succ]
 have q8:(((S[8]'(by omega)).toNat:Int) != 58)=false:=by simp;omega
 go_wp2
 rw [rounds_succ]
 by_cases d9:(48:Int)≤((S[9]'(by omega)).toNat:Int)∧((S[9]'(by omega)).toNat:Int)≤57
 case neg=>
  rcases (show ((S[9]'(by omega)).toNat:Int)<48∨((48:Int)≤((S[9]'(by omega)).toNat:Int)∧(57:Int)<((S[9]'(by omega)).toNat:Int)) by omega) with h1 | ⟨h1,h2⟩
  all_goals
   go_wp2
   simp [bodyPost,results,Tryz.results143,go_sem]
   exact (by repeat (first | refine Gr.setCell ?_ (by first | omega | (simp;done) | (simp;omega)) _ | refine Gr.alloc ?_ _ | refine Gr.drew ?_ | refine Gr.drewN ?_ _ | with_reducible assumption | with_reducible exact Gr.refl _ | refine Gr.trans ?_ (by with_reducible assumption)))
 obtain⟨l9,u9⟩:=d9
 go_wp2
 rw [rounds_succ]
 by_cases d10:(48:Int)≤((S[10]'(by omega)).toNat:Int)∧((S[10]'(by omega)).toNat:Int)≤57
 case neg=>
  rcases (show ((S[10]'(by omega)).toNat:Int)<48∨((48:Int)≤((S[10]'(by omega)).toNat:Int)∧(57:Int)<((S[10]'(by omega)).toNat:Int)) by omega) with h1 | ⟨h1,h2⟩
  all_goals
   go_wp2
   simp [bodyPost,results,Tryz.results143,go_sem]
   exact (by repeat (first | refine Gr.setCell ?_ (by first | omega | (simp;done) | (simp;omega)) _ | refine Gr.alloc ?_ _ | refine Gr.drew ?_ | refine Gr.drewN ?_ _ | with_reducible assumption | with_reducible exact Gr.refl _ | refine Gr.trans ?_ (by with_reducible assumption)))
 obtain⟨l10,u10⟩:=d10
 go_wp2
 exact absurd (show _ from ⟨⟨by omega,by omega,by omega,by omega⟩,⟨by omega,by omega,by omega,by omega⟩,⟨by omega,by omega,by omega,by omega⟩,⟨by omega,by omega,by omega,by omega⟩,by omega,by omega,by omega⟩) hbad.out
set_option maxRecDepth 100000 in
set_option maxHeartbeats 4000000 in
theorem rparse_bad59 (S:ByteArray) (b:Int) (w:World) (hb:C19.isB b=true) (hS:S.size=11)
  (m8:((S[8]'(by omega)).toNat:Int)=59)
  (hbad:¬ (dg2 (S[0]'(by omega)) (S[1]'(by omega))∧dg2 (S[3]'(by omega)) (S[4]'(by omega))∧dg2 (S[6]'(by omega)) (S[7]'(by omega))∧dg2 (S[9]'(by omega)) (S[10]'(by omega))∧(S[2]'(by omega)).toNat=58∧(S[5]'(by omega)).toNat=58∧((S[8]'(by omega)).toNat=58∨(S[8]'(by omega)).toNat=59))) :
  Calls Tryz.prog 143 #[.string S,.int .i64 b] w fun e w'=>e=.returned (.tuple #[.agg #[.int .i64 0,.int .i64 0,.int .i64 0,.int .i64 0,.int .i64 0,.bool false],.int .i64 3])∧Gr w w':=by
 have HB:=Lib.hid (fun w=>hb ▸ C19.known_any b w)
 replace hbad:=Lib.hid hbad
 clear hb
 go_enter Tryz.func143,Tryz.ntmps143
 go_wp2_with (go_at_call 82;refine (HB.out _).mono ?_;rintro e w' ⟨rfl,rfl⟩)
 refine wp_loop_rounds 12 ?_
 rw [rounds_succ]
 by_cases d0:(48:Int)≤((S[0]'(by omega)).toNat:Int)∧((S[0]'(by omega)).toNat:Int)≤57
 case neg=>
  rcases (show ((S[0]'(by omega)).toNat:Int)<48∨((48:Int)≤((S[0]'(by omega)).toNat:Int)∧(57:Int)<((S[0]'(by omega)).toNat:Int)) by omega) with h1 | ⟨h1,h2⟩
  all_goals
   go_wp2
   simp [bodyPost,results,Tryz.results143,go_sem]
   exact (by repeat (first | refine Gr.setCell ?_ (by first | omega | (simp;done) | (simp;omega)) _ | refine Gr.alloc ?_ _ | refine Gr.drew ?_ | refine Gr.drewN ?_ _ | with_reducible assumption | with_reducible exact Gr.refl _ | refine Gr.trans ?_ (by with_reducible assumption)))
 obtain⟨l0,u0⟩:=d0
 go_wp2
 rw [rounds_succ]
 by_cases d1:(48:Int)≤((S[1]'(by omega)).toNat:Int)∧((S[1]'(by omega)).toNat:Int)≤57
 case neg=>
  rcases (show ((S[1]'(by omega)).toNat:Int)<48∨((48:Int)≤((S[1]'(by omega)).toNat:Int)∧(57:Int)<((S[1]'(by omega)).toNat:Int)) by omega) with h1 | ⟨h1,h2⟩
  all_goals
   go_wp2
   simp [bodyPost,results,Tryz.results143,go_sem]
   exact (by repeat (first | refine Gr.setCell ?_ (by first | omega | (simp;done) | (simp;omega)) _ | refine Gr.alloc ?_ _ | refine Gr.drew ?_ | refine Gr.drewN ?_ _ | with_reducible assumption | with_reducible exact Gr.refl _ | refine Gr.trans ?_ (by with_reducible assumption)))
 obtain⟨l1,u1⟩:=d1
 go_wp2
 rw [rounds_succ]
 by_cases d2:((S[2]'(by omega)).toNat:Int)=58
 case neg=>
  have q:(((S[2]'(by omega)).toNat:Int) != 58)=true:=by simp;omega
  go_wp2
  all_goals
   simp [bodyPost,results,Tryz.results143,go_sem]
   exact (by repeat (first | refine Gr.setCell ?_ (by first | omega | (simp;done) | (simp;omega)) _ | refine Gr.alloc ?_ _ | refine Gr.drew ?_ | refine Gr.drewN ?_ _ | with_reducible assumption | with_reducible exact Gr.refl _ | refine Gr.trans ?_ (by with_reducible assumption)))
 have q2:(((S[2]'(by omega)).toNat:Int) != 58)=false:=by simp;omega
 go_wp2
 rw [rounds_succ]
 by_cases d3:(48:Int)≤((S[3]'(by omega)).toNat:Int)∧((S[3]'(by omega)).toNat:Int)≤57
 case neg=>
  rcases (show ((S[3]'(by omega)).toNat:Int)<48∨((48:Int)≤((S[3]'(by omega)).toNat:Int)∧(57:Int)<((S[3]'(by omega)).toNat:Int)) by omega) with h1 | ⟨h1,h2⟩
  all_goals
   go_wp2
   simp [bodyPost,results,Tryz.results143,go_sem]
   exact (by repeat (first | refine Gr.setCell ?_ (by first | omega | (simp;done) | (simp;omega)) _ | refine Gr.alloc ?_ _ | refine Gr.drew ?_ | refine Gr.drewN ?_ _ | with_reducible assumption | with_reducible exact Gr.refl _ | refine Gr.trans ?_ (by with_reducible assumption)))
 obtain⟨l3,u3⟩:=d3
 go_wp2
 rw [rounds_succ]
 by_cases d4:(48:Int)≤((S[4]'(by omega)).toNat:Int)∧((S[4]'(by omega)).toNat:Int)≤57
 case neg=>
  rcases (show ((S[4]'(by omega)).toNat:Int)<48∨((48:Int)≤((S[4]'(by omega)).toNat:Int)∧(57:Int)<((S[4]'(by omega)).toNat:Int)) by omega) with h1 | ⟨h1,h2⟩
  all_goals
   go_wp2
   simp [bodyPost,results,Tryz.results143,go_sem]
   exact (by repeat (first | refine Gr.setCell ?_ (by first | omega | (simp;done) | (simp;omega)) _ | refine Gr.alloc ?_ _ | refine Gr.drew ?_ | refine Gr.drewN ?_ _ | with_reducible assumption | with_reducible exact Gr.refl _ | refine Gr.trans ?_ (by with_reducible assumption)))
 obtain⟨l4,u4⟩:=d4
 go_wp2
 rw [rounds_succ]
 by_cases d5:((S[5]'(by omega)).toNat:Int)=58
 case neg=>
  have q:(((S[5]'(by omega)).toNat:Int) != 58)=true:=by simp;omega
  go_wp2
  all_goals
   simp [bodyPost,results,Tryz.results143,go_sem]
   exact (by repeat (first | refine Gr.setCell ?_ (by first | omega | (simp;done) | (simp;omega)) _ | refine Gr.alloc ?_ _ | refine Gr.drew ?_ | refine Gr.drewN ?_ _ | with_reducible assumption | with_reducible exact Gr.refl _ | refine Gr.trans ?_ (by with_reducible assumption)))
 have q5:(((S[5]'(by omega)).toNat:Int) != 58)=false:=by simp;omega
 go_wp2
 rw [rounds_succ]
 by_cases d6:(48:Int)≤((S[6]'(by omega)).toNat:Int)∧((S[6]'(by omega)).toNat:Int)≤57
 case neg=>
  rcases (show ((S[6]'(by omega)).toNat:Int)<48∨((48:Int)≤((S[6]'(by omega)).toNat:Int)∧(57:Int)<((S[6]'(by omega)).toNat:Int)) by omega) with h1 | ⟨h1,h2⟩
  all_goals
   go_wp2
   simp [bodyPost,results,Tryz.results143,go_sem]
   exact (by repeat (first | refine Gr.setCell ?_ (by first | omega | (simp;done) | (simp;omega)) _ | refine Gr.alloc ?_ _ | refine Gr.drew ?_ | refine Gr.drewN ?_ _ | with_reducible assumption | with_reducible exact Gr.refl _ | refine Gr.trans ?_ (by with_reducible assumption)))
 obtain⟨l6,u6⟩:=d6
 go_wp2
 rw [rounds_succ]
 by_cases d7:(48:Int)≤((S[7]'(by omega)).toNat:Int)∧((S[7]'(by omega)).toNat:Int)≤57
 case neg=>
  rcases (show ((S[7]'(by omega)).toNat:Int)<48∨((48:Int)≤((S[7]'(by omega)).toNat:Int)∧(57:Int)<((S[7]'(by omega)).toNat:Int)) by omega) with h1 | ⟨h1,h2⟩
  all_goals
   go_wp2
   simp [bodyPost,results,Tryz.results143,go_sem]
   exact (by repeat (first | refine Gr.setCell ?_ (by first | omega | (simp;done) | (simp;omega)) _ | refine Gr.alloc ?_ _ | refine Gr.drew ?_ | refine Gr.drewN ?_ _ | with_reducible assumption | with_reducible exact Gr.refl _ | refine Gr.trans ?_ (by with_reducible assumption)))
 obtain⟨l7,u7⟩:=d7
 go_wp2
 rw [rounds_succ]
 have q8:(((S[8]'(by omega)).toNat:Int) != 58)=true:=by simp;omega
 have q9:(((S[8]'(by omega)).toNat:Int) != 59)=false:=by simp;omega
 go_wp2
 rw [rounds_succ]
 by_cases d9:(48:Int)≤((S[9]'(by omega)).toNat:Int)∧((S[9]'(by omega)).toNat:Int)≤57
 case neg=>
  rcases (show ((S[9]'(by omega)).toNat:Int)<48∨((48:Int)≤((S[9]'(by omega)).toNat:Int)∧(57:Int)<((S[9]'(by omega)).toNat:Int)) by omega) with h1 | ⟨h1,h2⟩
  all_goals
   go_wp2
   simp [bodyPost,results,Tryz.results143,go_sem]
   exact (by repeat (first | refine Gr.setCell ?_ (by first | omega | (simp;done) | (simp;omega)) _ | refine Gr.alloc ?_ _ | refine Gr.drew ?_ | refine Gr.drewN ?_ _ | with_reducible assumption | with_reducible exact Gr.refl _ | refine Gr.trans ?_ (by with_reducible assumption)))
 obtain⟨l9,u9⟩:=d9
 go_wp2
 rw [rounds_succ]
 by_cases d10:(48:Int)≤((S[10]'(by omega)).toNat:Int)∧((S[10]'(by omega)).toNat:Int)≤57
 case neg=>
  rcases (show ((S[10]'(by omega)).toNat:Int)<48∨((48:Int)≤((S[10]'(by omega)).toNat:Int)∧(57:Int)<((S[10]'(by omega)).toNat:Int)) by omega) with h1 | ⟨h1,h2⟩
  all_goals
   go_wp2
   simp [bodyPost,results,Tryz.results143,go_sem]
   exact (by repeat (first | refine Gr.setCell ?_ (by first | omega | (simp;done) | (simp;omega)) _ | refine Gr.alloc ?_ _ | refine Gr.drew ?_ | refine Gr.drewN ?_ _ | with_reducible assumption | with_reducible exact Gr.refl _ | refine Gr.trans ?_ (by with_reducible assumption)))
 obtain⟨l10,u10⟩:=d10
 go_wp2
 exact absurd (show _ from ⟨⟨by omega,by omega,by omega,by omega⟩,⟨by omega,by omega,by omega,by omega⟩,⟨by omega,by omega,by omega,by omega⟩,⟨by omega,by omega,by omega,by omega⟩,by omega,by omega,by omega⟩) hbad.out
set_option maxRecDepth 100000 in
set_option maxHeartbeats 4000000 in
theorem rparse_bad8 (S:ByteArray) (b:Int) (w:World) (hb:C19.isB b=true) (hS:S.size=11)
  (m8:((S[8]'(by omega)).toNat:Int)≠58∧((S[8]'(by omega)).toNat:Int)≠59)
  (hbad:¬ (dg2 (S[0]'(by omega)) (S[1]'(by omega))∧dg2 (S[3]'(by omega)) (S[4]'(by omega))∧dg2 (S[6]'(by omega)) (S[7]'(by omega))∧dg2 (S[9]'(by omega)) (S[10]'(by omega))∧(S[2]'(by omega)).toNat=58∧(S[5]'(by omega)).toNat=58∧((S[8]'(by omega)).toNat=58∨(S[8]'(by omega)).toNat=59))) :
  Calls Tryz.prog 143 #[.string S,.int .i64 b] w fun e w'=>e=.returned (.tuple #[.agg #[.int .i64 0,.int .i64 0,.int .i64 0,.int .i64 0,.int .i64 0,.bool false],.int .i64 3])∧Gr w w':=by
 have HB:=Lib.hid (fun w=>hb ▸ C19.known_any b w)
 replace hbad:=Lib.hid hbad
 clear hb
 go_enter Tryz.func143,Tryz.ntmps143
 go_wp2_with (go_at_call 82;refine (HB.out _).mono ?_;rintro e w' ⟨rfl,rfl⟩)
 refine wp_loop_rounds 12 ?_
 rw [rounds_succ]
 by_cases d0:(48:Int)≤((S[0]'(by omega)).toNat:Int)∧((S[0]'(by omega)).toNat:Int)≤57
 case neg=>
  rcases (show ((S[0]'(by omega)).toNat:Int)<48∨((48:Int)≤((S[0]'(by omega)).toNat:Int)∧(57:Int)<((S[0]'(by omega)).toNat:Int)) by omega) with h1 | ⟨h1,h2⟩
  all_goals
   go_wp2
   simp [bodyPost,results,Tryz.results143,go_sem]
   exact (by repeat (first | refine Gr.setCell ?_ (by first | omega | (simp;done) | (simp;omega)) _ | refine Gr.alloc ?_ _ | refine Gr.drew ?_ | refine Gr.drewN ?_ _ | with_reducible assumption | with_reducible exact Gr.refl _ | refine Gr.trans ?_ (by with_reducible assumption)))
 obtain⟨l0,u0⟩:=d0
 go_wp2
 rw [rounds_succ]
 by_cases d1:(48:Int)≤((S[1]'(by omega)).toNat:Int)∧((S[1]'(by omega)).toNat:Int)≤57
 case neg=>
  rcases (show ((S[1]'(by omega)).toNat:Int)<48∨((48:Int)≤((S[1]'(by omega)).toNat:Int)∧(57:Int)<((S[1]'(by omega)).toNat:Int)) by omega) with h1 | ⟨h1,h2⟩
  all_goals
   go_wp2
   simp [bodyPost,results,Tryz.results143,go_sem]
   exact (by repeat (first | refine Gr.setCell ?_ (by first | omega | (simp;done) | (simp;omega)) _ | refine Gr.alloc ?_ _ | refine Gr.drew ?_ | refine Gr.drewN ?_ _ | with_reducible assumption | with_reducible exact Gr.refl _ | refine Gr.trans ?_ (by with_reducible assumption)))
 obtain⟨l1,u1⟩:=d1
 go_wp2
 rw [rounds_succ]
 by_cases d2:((S[2]'(by omega)).toNat:Int)=58
 case neg=>
  have q:(((S[2]'(by omega)).toNat:Int) != 58)=true:=by simp;omega
  go_wp2
  all_goals
   simp [bodyPost,results,Tryz.results143,go_sem]
   exact (by repeat (first | refine Gr.setCell ?_ (by first | omega | (simp;done) | (simp;omega)) _ | refine Gr.alloc ?_ _ | refine Gr.drew ?_ | refine Gr.drewN ?_ _ | with_reducible assumption | with_reducible exact Gr.refl _ | refine Gr.trans ?_ (by with_reducible assumption)))
 have q2:(((S[2]'(by omega)).toNat:Int) != 58)=false:=by simp;omega
 go_wp2
 rw [rounds_succ]
 by_cases d3:(48:Int)≤((S[3]'(by omega)).toNat:Int)∧((S[3]'(by omega)).toNat:Int)≤57
 case neg=>
  rcases (show ((S[3]'(by omega)).toNat:Int)<48∨((48:Int)≤((S[3]'(by omega)).toNat:Int)∧(57:Int)<((S[3]'(by omega)).toNat:Int)) by omega) with h1 | ⟨h1,h2⟩
  all_goals
   go_wp2
   simp [bodyPost,results,Tryz.results143,go_sem]
   exact (by repeat (first | refine Gr.setCell ?_ (by first | omega | (simp;done) | (simp;omega)) _ | refine Gr.alloc ?_ _ | refine Gr.drew ?_ | refine Gr.drewN ?_ _ | with_reducible assumption | with_reducible exact Gr.refl _ | refine Gr.trans ?_ (by with_reducible assumption)))
 obtain⟨l3,u3⟩:=d3
 go_wp2
 rw [rounds_succ]
 by_cases d4:(48:Int)≤((S[4]'(by omega)).toNat:Int)∧((S[4]'(by omega)).toNat:Int)≤57
 case neg=>
  rcases (show ((S[4]'(by omega)).toNat:Int)<48∨((48:Int)≤((S[4]'(by omega)).toNat:Int)∧(57:Int)<((S[4]'(by omega)).toNat:Int)) by omega) with h1 | ⟨h1,h2⟩
  all_goals
   go_wp2
   simp [bodyPost,results,Tryz.results143,go_sem]
   exact (by repeat (first | refine Gr.setCell ?_ (by first | omega | (simp;done) | (simp;omega)) _ | refine Gr.alloc ?_ _ | refine Gr.drew ?_ | refine Gr.drewN ?_ _ | with_reducible assumption | with_reducible exact Gr.refl _ | refine Gr.trans ?_ (by with_reducible assumption)))
 obtain⟨l4,u4⟩:=d4
 go_wp2
 rw [rounds_succ]
 by_cases d5:((S[5]'(by omega)).toNat:Int)=58
 case neg=>
  have q:(((S[5]'(by omega)).toNat:Int) != 58)=true:=by simp;omega
  go_wp2
  all_goals
   simp [bodyPost,results,Tryz.results143,go_sem]
   exact (by repeat (first | refine Gr.setCell ?_ (by first | omega | (simp;done) | (simp;omega)) _ | refine Gr.alloc ?_ _ | refine Gr.drew ?_ | refine Gr.drewN ?_ _ | with_reducible assumption | with_reducible exact Gr.refl _ | refine Gr.trans ?_ (by with_reducible assumption)))
 have q5:(((S[5]'(by omega)).toNat:Int) != 58)=false:=by simp;omega
 go_wp2
 rw [rounds_succ]
 by_cases d6:(48:Int)≤((S[6]'(by omega)).toNat:Int)∧((S[6]'(by omega)).toNat:Int)≤57
 case neg=>
  rcases (show ((S[6]'(by omega)).toNat:Int)<48∨((48:Int)≤((S[6]'(by omega)).toNat:Int)∧(57:Int)<((S[6]'(by omega)).toNat:Int)) by omega) with h1 | ⟨h1,h2⟩
  all_goals
   go_wp2
   simp [bodyPost,results,Tryz.results143,go_sem]
   exact (by repeat (first | refine Gr.setCell ?_ (by first | omega | (simp;done) | (simp;omega)) _ | refine Gr.alloc ?_ _ | refine Gr.drew ?_ | refine Gr.drewN ?_ _ | with_reducible assumption | with_reducible exact Gr.refl _ | refine Gr.trans ?_ (by with_reducible assumption)))
 obtain⟨l6,u6⟩:=d6
 go_wp2
 rw [rounds_succ]
 by_cases d7:(48:Int)≤((S[7]'(by omega)).toNat:Int)∧((S[7]'(by omega)).toNat:Int)≤57
 case neg=>
  rcases (show ((S[7]'(by omega)).toNat:Int)<48∨((48:Int)≤((S[7]'(by omega)).toNat:Int)∧(57:Int)<((S[7]'(by omega)).toNat:Int)) by omega) with h1 | ⟨h1,h2⟩
  all_goals
   go_wp2
   simp [bodyPost,results,Tryz.results143,go_sem]
   exact (by repeat (first | refine Gr.setCell ?_ (by first | omega | (simp;done) | (simp;omega)) _ | refine Gr.alloc ?_ _ | refine Gr.drew ?_ | refine Gr.drewN ?_ _ | with_reducible assumption | with_reducible exact Gr.refl _ | refine Gr.trans ?_ (by with_reducible assumption)))
 obtain⟨l7,u7⟩:=d7
 go_wp2
 rw [rounds_succ]
 have q:(((S[8]'(by omega)).toNat:Int) != 58)=true:=by simp;omega
 have q9:(((S[8]'(by omega)).toNat:Int) != 59)=true:=by simp;omega
 go_wp2
 all_goals
  simp [bodyPost,results,Tryz.results143,go_sem]
  exact (by repeat (first | refine Gr.setCell ?_ (by first | omega | (simp;done) | (simp;omega)) _ | refine Gr.alloc ?_ _ | refine Gr.drew ?_ | refine Gr.drewN ?_ _ | with_reducible assumption | with_reducible exact Gr.refl _ | refine Gr.trans ?_ (by with_reducible assumption)))
end Go.Proofs.YtgbiodnfpbhjiaaGreatDoor
