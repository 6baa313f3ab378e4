/-
  Plain arithmetic of timecodes: the base of a rate, the number of a label. No program in sight.
  Conditions: none.
-/
import Derived.Test.YtnginfangeikpaaGreatDoorWalk19A
import Derived.OwnWalk
import Derived.Laws.IdiomStrings
namespace Go.Proofs.YtnginfangeikpaaGreatDoor.C19
open Go.RowKit
set_option linter.unusedVariables false
def mt (n d b:Int):Prop:=(n=b∧d=1)∨(n=b * 1000∧d=1001)
instance (n d b:Int):Decidable (mt n d b):=by unfold mt;exact inferInstance
def wi (x l:Int):Bool:=decide (0≤x∧x<l)
def inN (h m s f b:Int):Bool:=wi h 24 && (wi m 60 && (wi s 60 && wi f b))
def miss (h m s f b:Int) (d:Bool):Bool:=decide (s=0∧f<dm (60 * h+m) b d)
def numN (h m s f b:Int) (d:Bool):Int:=60 * (b * (60 * h+m))+(s * b+f) - drp b d * ((60 * h+m) - (60 * h+m) / 10)
def nmV (h m s f b:Int) (d:Bool):Int:=if okB b d && (inN h m s f b && !miss h m s f b d) then numN h m s f b d else 0
def nmE (h m s f b:Int) (d:Bool):Int:=if okB b d then (if inN h m s f b && !miss h m s f b d then 0 else 2) else 1
theorem inN_out {h m s f b:Int} (hi:inN h m s f b=true):(0≤h∧h<24)∧(0≤m∧m<60)∧(0≤s∧s<60)∧(0≤f∧f<b):=by
 unfold inN wi at hi;simpa using hi
theorem numN_st {h m s f b:Int} {d:Bool} (ho:okB b d=true) (hi:inN h m s f b=true) :
  numN h m s f b d=stN b d (60 * h+m).toNat+(s * b+f) - dm (60 * h+m) b d:=by
 obtain⟨⟨h1,h2⟩,⟨h3,h4⟩,_,_⟩:=inN_out hi
 rw [stN_eq]
 have e:(((60 * h+m).toNat:Nat):Int)=60 * h+m:=by omega
 rw [e]
 unfold numN dm
 rcases okB_cases ho with ⟨rfl,rfl⟩ | ⟨rfl,rfl⟩ | ⟨rfl,rfl⟩ | ⟨rfl,rfl⟩ | ⟨rfl,rfl⟩ | ⟨rfl,rfl⟩ | ⟨rfl,rfl⟩ | ⟨rfl,rfl⟩ <;> simp only [drp,if_true,Bool.false_eq_true,if_false] <;> split <;> omega
theorem sb_bounds {s f b:Int} (hb:24≤b∧b≤60) (h1:0≤s) (h2:s<60) (h3:0≤f) (h4:f<b):0≤s * b+f∧s * b+f<60 * b∧(0<s→24≤s * b):=by
 have a1:0≤s * b:=Int.mul_nonneg h1 (by omega)
 have a2:s * b≤59 * b:=Int.mul_le_mul_of_nonneg_right (by omega) (by omega)
 refine⟨by omega,by omega,fun h=>?_⟩
 have:1 * b≤s * b:=Int.mul_le_mul_of_nonneg_right (by omega) (by omega)
 omega
theorem num_bounds {h m s f b:Int} {d:Bool} (ho:okB b d=true) (hi:inN h m s f b=true) (hm:miss h m s f b d=false) :
  0≤numN h m s f b d∧numN h m s f b d<dayN b d:=by
 have hb:=okB_bounds ho
 obtain⟨⟨h1,h2⟩,⟨h3,h4⟩,⟨h5,h6⟩,⟨h7,h8⟩⟩:=inN_out hi
 have sb:=sb_bounds ⟨hb.1,hb.2.1⟩ h5 h6 h7 h8
 rw [numN_st ho hi]
 have m1:=stN_mono b d ho 0 (60 * h+m).toNat
 have m2:=stN_mono b d ho ((60 * h+m).toNat+1) (1440 - ((60 * h+m).toNat+1))
 rw [show ((60 * h+m).toNat+1)+(1440 - ((60 * h+m).toNat+1))=1440 by omega,stN_day,stN] at m2
 rw [Nat.zero_add] at m1
 have e:(((60 * h+m).toNat:Nat):Int)=60 * h+m:=by omega
 rw [e] at m2
 have db:=dm_bounds (m:=60 * h+m) ho
 have hm':¬ (s=0∧f<dm (60 * h+m) b d):=by unfold miss at hm;simpa using hm
 have z:stN b d 0=0:=rfl
 rw [z] at m1
 generalize stN b d (60 * h+m).toNat=S at *
 generalize dm (60 * h+m) b d=δ at *
 by_cases hs:s=0
 ·subst hs;omega
 ·have:=sb.2.2 (by omega);omega
theorem num_label {h m s f b:Int} {d:Bool} (ho:okB b d=true) (hi:inN h m s f b=true) (hm:miss h m s f b d=false) :
  lm (numN h m s f b d) b d=60 * h+m∧lf (numN h m s f b d) b d=s * b+f:=by
 have nb:=num_bounds ho hi hm
 have hb:=okB_bounds ho
 obtain⟨⟨h1,h2⟩,⟨h3,h4⟩,⟨h5,h6⟩,⟨h7,h8⟩⟩:=inN_out hi
 have sb:=sb_bounds ⟨hb.1,hb.2.1⟩ h5 h6 h7 h8
 unfold lm lf
 rw [Int.emod_eq_of_lt nb.1 nb.2]
 have hm':¬ (s=0∧f<dm (60 * h+m) b d):=by unfold miss at hm;simpa using hm
 have e:(((60 * h+m).toNat:Nat):Int)=60 * h+m:=by omega
 have es:=numN_st ho hi
 have ex:stN b d ((60 * h+m).toNat+1)=stN b d (60 * h+m).toNat+60 * b - dm (((60 * h+m).toNat:Nat):Int) b d:=rfl
 have key:=r_unique (r:=numN h m s f b d) (m:=(60 * h+m).toNat) ho nb.1
 rw [ex,e] at key
 rw [es] at key nb ⊢
 have db:=dm_bounds (m:=60 * h+m) ho
 generalize hS:stN b d (60 * h+m).toNat=S at *
 generalize dm (60 * h+m) b d=δ at *
 have hge:δ≤s * b+f:=by
  by_cases hs:s=0
  ·subst hs;omega
  ·have:=sb.2.2 (by omega)
   omega
 obtain⟨k1,k2⟩:=key (by omega) (by omega)
 exact⟨k1.symm,by rw [← k2];omega⟩
theorem num_label_miss {h m s f b:Int} {d:Bool} (ho:okB b d=true) (hi:inN h m s f b=true) (hm:miss h m s f b d=true) :
  lm (numN h m s f b d) b d=60 * h+(m - 1)∧1≤m:=by
 have hb:=okB_bounds ho
 obtain⟨⟨h1,h2⟩,⟨h3,h4⟩,⟨h5,h6⟩,⟨h7,h8⟩⟩:=inN_out hi
 have hm':s=0∧f<dm (60 * h+m) b d:=by unfold miss at hm;simpa using hm
 obtain⟨rfl,hf⟩:=hm'
 have db:=dm_bounds (m:=60 * h+m) ho
 have h10:(60 * h+m) % 10≠0:=by
  intro h0
  unfold dm at hf
  rw [if_pos h0] at hf
  omega
 have hm1:1≤m:=by omega
 refine⟨?_,hm1⟩
 have e:(((60 * h+(m - 1)).toNat:Nat):Int)=60 * h+(m - 1):=by omega
 have en:(60 * h+m).toNat=(60 * h+(m - 1)).toNat+1:=by omega
 have es:=numN_st ho hi
 have ex:stN b d ((60 * h+(m - 1)).toNat+1)=stN b d (60 * h+(m - 1)).toNat+60 * b - dm (((60 * h+(m - 1)).toNat:Nat):Int) b d:=rfl
 have d1:=dm_bounds (m:=60 * h+(m - 1)) ho
 have m1:=stN_mono b d ho 0 (60 * h+(m - 1)).toNat
 have m2:=stN_mono b d ho ((60 * h+(m - 1)).toNat+1) (1440 - ((60 * h+(m - 1)).toNat+1))
 rw [show ((60 * h+(m - 1)).toNat+1)+(1440 - ((60 * h+(m - 1)).toNat+1))=1440 by omega,stN_day] at m2
 rw [Nat.zero_add,show stN b d 0=0 from rfl] at m1
 rw [en] at es
 have key:=r_unique (r:=numN h m 0 f b d) (m:=(60 * h+(m - 1)).toNat) ho
 rw [e] at key
 unfold lm
 rw [ex] at es m2 key
 rw [e] at es m2 key
 rw [es] at key ⊢
 generalize stN b d (60 * h+(m - 1)).toNat=S at *
 generalize dm (60 * h+m) b d=δ at *
 generalize dm (60 * h+(m - 1)) b d=ε at *
 rw [Int.emod_eq_of_lt (by omega) (by omega)]
 exact (key (by omega) (by omega) (by omega)).1.symm
set_option linter.unusedSimpArgs false
theorem within_any (x l:Int) (w:World) :
  Calls Tryz.prog 150 #[.int .i64 x,.int .i64 l] w fun e w'=>e=.returned (.bool (wi x l))∧w=w':=by
 by_cases h1:0≤x
 ·by_cases h2:x<l
  ·have hb:wi x l=true:=decide_eq_true ⟨h1,h2⟩
   have d1:decide (0≤x)=true:=decide_eq_true h1
   have d2:decide (x<l)=true:=decide_eq_true h2
   rw [hb]
   clear h1 h2 hb
   go_enter Tryz.func150,Tryz.ntmps150
   go_wp2
   go_ret
   exact⟨ret_bool rfl,rfl⟩
  ·have hb:wi x l=false:=decide_eq_false (fun x=>h2 x.2)
   have d1:decide (0≤x)=true:=decide_eq_true h1
   have d2:decide (x<l)=false:=decide_eq_false h2
   rw [hb]
   clear h1 h2 hb
   go_enter Tryz.func150,Tryz.ntmps150
   go_wp2
   go_ret
   exact⟨ret_bool rfl,rfl⟩
 ·have hb:wi x l=false:=decide_eq_false (fun x=>h1 x.1)
  have d1:decide (0≤x)=false:=decide_eq_false h1
  rw [hb]
  clear h1 hb
  go_enter Tryz.func150,Tryz.ntmps150
  go_wp2
  go_ret
  exact⟨ret_bool rfl,rfl⟩
theorem position_any (h m s f b:Int) (d:Bool) (w:World) (h1:0≤h∧h<24) (h2:0≤m∧m<60) (h3:0≤s∧s<60) (h4:0≤f∧f<b) (hb:24≤b∧b≤60) :
  Calls Tryz.prog 151 #[.agg #[.int .i64 h,.int .i64 m,.int .i64 s,.int .i64 f,.int .i64 b,.bool d]] w fun e w'=>e=.returned (.int .i64 (((h * 60+m) * 60+s) * b+f))∧Gr w w':=by
 obtain⟨t,ht⟩:∃ t,(h * 60+m) * 60+s=t:=⟨_,rfl⟩
 have t1:0≤t∧t<86400:=by omega
 have t2:0≤t * b:=Int.mul_nonneg t1.1 (by omega)
 have t3:t * b≤86400 * b:=Int.mul_le_mul_of_nonneg_right (by omega) (by omega)
 have t4:0≤((h * 60+m) * 60+s) * b:=by rw [ht];exact t2
 have t5:((h * 60+m) * 60+s) * b≤5184000:=by rw [ht];omega
 clear ht t1 t2 t3
 go_enter Tryz.func151,Tryz.ntmps151
 go_wp2
 simp [bodyPost,results,Tryz.results151,go_sem]
 exact (by repeat (first | refine Gr.setCell ?_ (by first | omega | (simp;done) | (simp;omega)) _ | refine Gr.alloc ?_ _ | refine Gr.drew ?_ | refine Gr.drewN ?_ _ | with_reducible assumption | with_reducible exact Gr.refl _ | refine Gr.trans ?_ (by with_reducible assumption)))
theorem number_no (h m s f b:Int) (d:Bool) (w:World) (ho:okB b d=false) :
  Calls Tryz.prog 132 #[.agg #[.int .i64 h,.int .i64 m,.int .i64 s,.int .i64 f,.int .i64 b,.bool d]] w fun e w'=>e=.returned (.tuple #[.int .i64 0,.int .i64 1])∧Gr w w':=by
 go_enter Tryz.func132,Tryz.ntmps132
 go_wp2_with (go_at_call 28;refine (day_no _ _ _ ho).mono ?_;rintro e w' ⟨rfl,rfl⟩)
 simp [bodyPost,results,Tryz.results132,go_sem]
 exact (by repeat (first | refine Gr.setCell ?_ (by first | omega | (simp;done) | (simp;omega)) _ | refine Gr.alloc ?_ _ | refine Gr.drew ?_ | refine Gr.drewN ?_ _ | with_reducible assumption | with_reducible exact Gr.refl _ | refine Gr.trans ?_ (by with_reducible assumption)))
theorem inN_false {h m s f b:Int} (hi:inN h m s f b=false):wi h 24=false∨(wi h 24=true∧wi m 60=false)∨(wi h 24=true∧wi m 60=true∧wi s 60=false)∨(wi h 24=true∧wi m 60=true∧wi s 60=true∧wi f b=false):=by
 unfold inN at hi
 generalize wi h 24=a at *
 generalize wi m 60=c at *
 generalize wi s 60=e at *
 generalize wi f b=g at *
 revert hi;revert a c e g;decide
set_option maxHeartbeats 400000 in
theorem number_out (h m s f b:Int) (d:Bool) (w:World) (ho:okB b d=true) (hi:inN h m s f b=false) :
  Calls Tryz.prog 132 #[.agg #[.int .i64 h,.int .i64 m,.int .i64 s,.int .i64 f,.int .i64 b,.bool d]] w fun e w'=>e=.returned (.tuple #[.int .i64 0,.int .i64 2])∧Gr w w':=by
 have HDY:=Lib.hid (fun w=>day_yes b d w ho)
 have HH:=Lib.hid (fun w=>within_any h 24 w)
 have HM:=Lib.hid (fun w=>within_any m 60 w)
 have HS:=Lib.hid (fun w=>within_any s 60 w)
 have HF:=Lib.hid (fun w=>within_any f b w)
 generalize dayN b d=D at *
 clear ho
 rcases inN_false hi with h1 | ⟨h1,h2⟩ | ⟨h1,h2,h3⟩ | ⟨h1,h2,h3,h4⟩
 all_goals
  clear hi
  (try rw [h1] at HH);(try rw [h2] at HM);(try rw [h3] at HS);(try rw [h4] at HF)
  go_enter Tryz.func132,Tryz.ntmps132
  go_wp2_with (first
   | (go_at_call 28;refine (HDY.out _).mono ?_;rintro e w' ⟨rfl,rfl⟩)
   | (go_at_call 150;with_reducible refine (HH.out _).mono ?_;rintro e w' ⟨rfl,rfl⟩)
   | (go_at_call 150;with_reducible refine (HM.out _).mono ?_;rintro e w' ⟨rfl,rfl⟩)
   | (go_at_call 150;with_reducible refine (HS.out _).mono ?_;rintro e w' ⟨rfl,rfl⟩)
   | (go_at_call 150;with_reducible refine (HF.out _).mono ?_;rintro e w' ⟨rfl,rfl⟩))
  simp [bodyPost,results,Tryz.results132,go_sem]
  exact (by repeat (first | refine Gr.setCell ?_ (by first | omega | (simp;done) | (simp;omega)) _ | refine Gr.alloc ?_ _ | refine Gr.drew ?_ | refine Gr.drewN ?_ _ | with_reducible assumption | with_reducible exact Gr.refl _ | refine Gr.trans ?_ (by with_reducible assumption)))
theorem numN_eq (h m s f b:Int) (d:Bool):((h * 60+m) * 60+s) * b+f - drp b d * (h * 60+m - (h * 60+m) / 10)=numN h m s f b d:=by
 unfold numN
 rw [Int.mul_comm h 60,Int.add_mul,Int.mul_assoc,Int.mul_comm 60 b,← Int.mul_assoc,Int.mul_comm _ b,← Int.mul_assoc 60]
 have:b * (60 * h+m) * 60=60 * b * (60 * h+m):=by rw [Int.mul_comm _ 60,Int.mul_assoc]
 rw [this]
 omega
theorem label_parts {h m s f b:Int} (hb:24≤b) (hm:0≤m∧m<60) (hf:0≤f∧f<b) :
  (60 * h+m) / 60=h∧(60 * h+m) % 60=m∧(s * b+f) / b=s∧(s * b+f) % b=f:=by
 refine⟨by omega,by omega,?_,?_⟩
 ·rw [Int.add_comm,Int.add_mul_ediv_right _ _ (by omega),Int.ediv_eq_zero_of_lt hf.1 hf.2,Int.zero_add]
 ·rw [Int.add_comm,Int.add_mul_emod_self_right,Int.emod_eq_of_lt hf.1 hf.2]
set_option maxHeartbeats 400000 in
theorem number_in (h m s f b:Int) (d:Bool) (w:World) (ho:okB b d=true) (hi:inN h m s f b=true) :
  Calls Tryz.prog 132 #[.agg #[.int .i64 h,.int .i64 m,.int .i64 s,.int .i64 f,.int .i64 b,.bool d]] w fun e w'=>e=.returned (.tuple #[.int .i64 (nmV h m s f b d),.int .i64 (nmE h m s f b d)])∧Gr w w':=by
 obtain⟨p1,p2,p3,p4⟩:=inN_out hi
 have hb:=okB_bounds ho
 have HDY:=Lib.hid (fun w=>day_yes b d w ho)
 have HDR:=Lib.hid (fun w=>dropped_any b d w (by omega) (by omega))
 have HP:=Lib.hid (fun w=>position_any h m s f b d w p1 p2 p3 p4 ⟨hb.1,hb.2.1⟩)
 have sb:=sb_bounds ⟨hb.1,hb.2.1⟩ p3.1 p3.2 p4.1 p4.2
 have k1:0≤drp b d * (h * 60+m - (h * 60+m) / 10):=Int.mul_nonneg hb.2.2.1 (by omega)
 have k2:drp b d * (h * 60+m - (h * 60+m) / 10)≤5760:=by
  have:drp b d * (h * 60+m - (h * 60+m) / 10)≤4 * 1440:=Int.mul_le_mul hb.2.2.2 (by omega) (by omega) (by omega)
  omega
 have t0:0≤(h * 60+m) * 60+s∧(h * 60+m) * 60+s≤86400:=by omega
 have t4:0≤((h * 60+m) * 60+s) * b:=Int.mul_nonneg t0.1 (by omega)
 have t5:((h * 60+m) * 60+s) * b≤5184000:=by
  have:((h * 60+m) * 60+s) * b≤86400 * 60:=Int.mul_le_mul t0.2 hb.2.1 (by omega) (by omega)
  omega
 have HL:=Lib.hid (fun w=>label_any (((h * 60+m) * 60+s) * b+f - drp b d * (h * 60+m - (h * 60+m) / 10)) b d w (by unfold I64;omega) ho)
 have HV:Hid (nmV h m s f b d=if okB b d && (inN h m s f b && !miss h m s f b d) then numN h m s f b d else 0):=rfl
 have HE:Hid (nmE h m s f b d=if okB b d then (if inN h m s f b && !miss h m s f b d then 0 else 2) else 1):=rfl
 have HQ:=Lib.hid (numN_eq h m s f b d)
 have HH:Hid (∀ w,Calls Tryz.prog 150 #[.int .i64 h,.int .i64 24] w fun e w'=>e=.returned (.bool true)∧w=w'):=(fun w=>(within_any h 24 w).mono fun e w' hh=>by rw [show wi h 24=true from decide_eq_true p1] at hh;exact hh:∀ w,Calls Tryz.prog 150 #[.int .i64 h,.int .i64 24] w fun e w'=>e=.returned (.bool true)∧w=w')
 have HM:Hid (∀ w,Calls Tryz.prog 150 #[.int .i64 m,.int .i64 60] w fun e w'=>e=.returned (.bool true)∧w=w'):=(fun w=>(within_any m 60 w).mono fun e w' hh=>by rw [show wi m 60=true from decide_eq_true p2] at hh;exact hh:∀ w,Calls Tryz.prog 150 #[.int .i64 m,.int .i64 60] w fun e w'=>e=.returned (.bool true)∧w=w')
 have HS:Hid (∀ w,Calls Tryz.prog 150 #[.int .i64 s,.int .i64 60] w fun e w'=>e=.returned (.bool true)∧w=w'):=(fun w=>(within_any s 60 w).mono fun e w' hh=>by rw [show wi s 60=true from decide_eq_true p3] at hh;exact hh:∀ w,Calls Tryz.prog 150 #[.int .i64 s,.int .i64 60] w fun e w'=>e=.returned (.bool true)∧w=w')
 have HF:Hid (∀ w,Calls Tryz.prog 150 #[.int .i64 f,.int .i64 b] w fun e w'=>e=.returned (.bool true)∧w=w'):=(fun w=>(within_any f b w).mono fun e w' hh=>by rw [show wi f b=true from decide_eq_true p4] at hh;exact hh:∀ w,Calls Tryz.prog 150 #[.int .i64 f,.int .i64 b] w fun e w'=>e=.returned (.bool true)∧w=w')
 rw [ho,hi] at HV HE
 by_cases hm:miss h m s f b d=true
 ·rw [hm] at HV HE
  have ll:=num_label_miss ho hi hm
  have lp:=label_parts (h:=h) (m:=m - 1) (s:=s) (f:=f) hb.1 (by omega) p4
  rw [HQ.out,ll.1,lp.1,lp.2.1] at HL
  rw [← HQ.out] at HL
  generalize lf (((h * 60+m) * 60+s) * b+f - drp b d * (h * 60+m - (h * 60+m) / 10)) b d=F at *
  have d1:(m - 1 == m)=false:=by simpa using (show ¬ m - 1=m by omega)
  generalize nmV h m s f b d=V at *
  generalize nmE h m s f b d=E at *
  have hV:V=0:=HV.out
  have hE:E=2:=HE.out
  subst hV hE
  clear HV HE HQ ll lp hm hi ho
  generalize dayN b d=D at *
  generalize drp b d=k at *
  go_enter Tryz.func132,Tryz.ntmps132
  go_wp2_with (first
   | (go_at_call 28;refine (HDY.out _).mono ?_;rintro e w' ⟨rfl,rfl⟩)
   | (go_at_call 150;with_reducible refine (HH.out _).mono ?_;rintro e w' ⟨rfl,rfl⟩)
   | (go_at_call 150;with_reducible refine (HM.out _).mono ?_;rintro e w' ⟨rfl,rfl⟩)
   | (go_at_call 150;with_reducible refine (HS.out _).mono ?_;rintro e w' ⟨rfl,rfl⟩)
   | (go_at_call 150;with_reducible refine (HF.out _).mono ?_;rintro e w' ⟨rfl,rfl⟩))
  refine wp_region_gr (by kernel_rfl) (by kernel_rfl) (fun hq1 hq2=>?_)
  repeat (first | go_big_quiet_skip | (go_big_quiet_want;go_big_quiet_op;first | go_big_quiet_on | (apply Exists.intro;refine⟨fun _=>?_,?_⟩;(· (first | (go_at_call 151;exact gr_call (HP.out _)) | (go_at_call 56;exact gr_call_same (HDR.out _))));go_big_quiet_on)))
  refine wpQuiet_nil ?_
  clear hq1 hq2
  rintro w1 ⟨⟨_,hg1⟩,rfl⟩
  obtain⟨hc1,hf1⟩:=hg1.cells
  have hz1:=hg1.size
  (try simp at hz1);(try have hl1_0_0:w.heap.size<w1.heap.size:=by omega);(try have hm1_0_0:w.heap.size≤w1.heap.size:=by omega);(try have hl1_0_1:w.heap.size+1<w1.heap.size:=by omega);(try have hl1_0_2:w.heap.size+2<w1.heap.size:=by omega)
  go_wp2_with (go_at_call 111;refine (HL.out _).mono ?_;rintro e w2 ⟨rfl,hg2⟩;obtain⟨hc2,hf2⟩:=hg2.cells;have hz2:=hg2.size;(try simp at hz2);(try have hl2_0_0:w.heap.size<w2.heap.size:=by omega);(try have hm2_0_0:w.heap.size≤w2.heap.size:=by omega);(try have hl2_0_1:w.heap.size+1<w2.heap.size:=by omega);(try have hl2_0_2:w.heap.size+2<w2.heap.size:=by omega);(try have hl2_1_0:w1.heap.size<w2.heap.size:=by omega);(try have hm2_1_0:w1.heap.size≤w2.heap.size:=by omega);(try have hl2_1_1:w1.heap.size+1<w2.heap.size:=by omega);(try have hl2_1_2:w1.heap.size+2<w2.heap.size:=by omega))
  simp [bodyPost,results,Tryz.results132,go_sem,hc2,hf2]
  exact (by repeat (first | refine Gr.setCell ?_ (by first | omega | (simp;done) | (simp;omega)) _ | refine Gr.alloc ?_ _ | refine Gr.drew ?_ | refine Gr.drewN ?_ _ | with_reducible assumption | with_reducible exact Gr.refl _ | refine Gr.trans ?_ (by with_reducible assumption)))
 ·have hm:miss h m s f b d=false:=by simpa using hm
  rw [hm] at HV HE
  have ll:=num_label ho hi hm
  have lp:=label_parts (h:=h) (m:=m) (s:=s) (f:=f) hb.1 p2 p4
  rw [HQ.out,ll.1,ll.2,lp.1,lp.2.1,lp.2.2.1,lp.2.2.2] at HL
  rw [← HQ.out] at HL
  have hV:nmV h m s f b d=((h * 60+m) * 60+s) * b+f - drp b d * (h * 60+m - (h * 60+m) / 10):=HV.out.trans HQ.out.symm
  have hE:nmE h m s f b d=0:=HE.out
  rw [hV,hE]
  clear HV HE HQ ll lp hm hi ho hV hE
  generalize dayN b d=D at *
  generalize drp b d=k at *
  go_enter Tryz.func132,Tryz.ntmps132
  go_wp2_with (first
   | (go_at_call 28;refine (HDY.out _).mono ?_;rintro e w' ⟨rfl,rfl⟩)
   | (go_at_call 150;with_reducible refine (HH.out _).mono ?_;rintro e w' ⟨rfl,rfl⟩)
   | (go_at_call 150;with_reducible refine (HM.out _).mono ?_;rintro e w' ⟨rfl,rfl⟩)
   | (go_at_call 150;with_reducible refine (HS.out _).mono ?_;rintro e w' ⟨rfl,rfl⟩)
   | (go_at_call 150;with_reducible refine (HF.out _).mono ?_;rintro e w' ⟨rfl,rfl⟩))
  refine wp_region_gr (by kernel_rfl) (by kernel_rfl) (fun hq1 hq2=>?_)
  repeat (first | go_big_quiet_skip | (go_big_quiet_want;go_big_quiet_op;first | go_big_quiet_on | (apply Exists.intro;refine⟨fun _=>?_,?_⟩;(· (first | (go_at_call 151;exact gr_call (HP.out _)) | (go_at_call 56;exact gr_call_same (HDR.out _))));go_big_quiet_on)))
  refine wpQuiet_nil ?_
  clear hq1 hq2
  rintro w1 ⟨⟨_,hg1⟩,rfl⟩
  obtain⟨hc1,hf1⟩:=hg1.cells
  have hz1:=hg1.size
  (try simp at hz1);(try have hl1_0_0:w.heap.size<w1.heap.size:=by omega);(try have hm1_0_0:w.heap.size≤w1.heap.size:=by omega);(try have hl1_0_1:w.heap.size+1<w1.heap.size:=by omega);(try have hl1_0_2:w.heap.size+2<w1.heap.size:=by omega)
  go_wp2_with (go_at_call 111;refine (HL.out _).mono ?_;rintro e w2 ⟨rfl,hg2⟩;obtain⟨hc2,hf2⟩:=hg2.cells;have hz2:=hg2.size;(try simp at hz2);(try have hl2_0_0:w.heap.size<w2.heap.size:=by omega);(try have hm2_0_0:w.heap.size≤w2.heap.size:=by omega);(try have hl2_0_1:w.heap.size+1<w2.heap.size:=by omega);(try have hl2_0_2:w.heap.size+2<w2.heap.size:=by omega);(try have hl2_1_0:w1.heap.size<w2.heap.size:=by omega);(try have hm2_1_0:w1.heap.size≤w2.heap.size:=by omega);(try have hl2_1_1:w1.heap.size+1<w2.heap.size:=by omega);(try have hl2_1_2:w1.heap.size+2<w2.heap.size:=by omega))
  simp [bodyPost,results,Tryz.results132,go_sem,hc2,hf2]
  exact (by repeat (first | refine Gr.setCell ?_ (by first | omega | (simp;done) | (simp;omega)) _ | refine Gr.alloc ?_ _ | refine Gr.drew ?_ | refine Gr.drewN ?_ _ | with_reducible assumption | with_reducible exact Gr.refl _ | refine Gr.trans ?_ (by with_reducible assumption)))
def fmtL (h m s f:Int) (d:Bool):List Int:=[48+h / 10,48+h % 10,58,48+m / 10,48+m % 10,58,48+s / 10,48+s % 10,if d then 59 else 58,48+f / 10,48+f % 10]
def fmtS (h m s f:Int) (d:Bool):ByteArray:=⟨((fmtL h m s f d).map fun x=>UInt8.ofNat x.toNat).toArray⟩
theorem fmt_byte {x:Int} (h0:0≤x) (h1:x<256):((UInt8.ofNat x.toNat).toNat:Int)=x:=by
 simp [UInt8.toNat_ofNat];omega
theorem fmt_small {h m s f:Int} {d:Bool} (h1:0≤h∧h<60) (h2:0≤m∧m<60) (h3:0≤s∧s<60) (h4:0≤f∧f<60):∀ x∈fmtL h m s f d,0≤x∧x<256:=by
 intro x hx
 simp [fmtL] at hx
 rcases hx with rfl | rfl | rfl | rfl | rfl | rfl | rfl | rfl | rfl | rfl | rfl <;> (first | omega | (split <;> omega))
theorem infoU8:(Tryz.prog.info? 5).map (fun i=>(i.zero,i.size,i.bytes))=some (some (.int .u8 0),1,1):=by kernel_rfl
theorem format_conv (L:List Int) (hL:∀ x∈L,0≤x∧x<256) (w:World) (base g n cap:Nat) (hn:L.length=n)
  (hown:w.ownsRow base 5 1 (.slice (some ⟨g,0,none⟩) n cap) n (L.map (Value.int .u8))) :
  (convert 114 9 (.slice (some ⟨g,0,none⟩) n cap)).run Tryz.prog w=.ok (.string ⟨(L.map fun x=>UInt8.ofNat x.toNat).toArray⟩) w:=by
 subst hn
 have:=run_convert_bytes_back (P:=Tryz.prog) w 114 9 5 ⟨g,0,none⟩ cap (L.map fun x=>UInt8.ofNat x.toNat) (by kernel_rfl) (by kernel_rfl) (by kernel_rfl) (fun j hj=>by
  refine hown.cells rfl j _ ?_
  simp at hj
  simp only [List.getElem?_map,List.getElem_map]
  rw [List.getElem?_eq_getElem hj]
  have hb:=hL _ (List.getElem_mem hj)
  simp only [Option.map_some]
  rw [fmt_byte hb.1 hb.2])
 simpa using this
theorem format_no (h m s f b:Int) (d:Bool) (E:Int) (w:World) (hE:E=1∨E=2)
  (H:∀ w,Calls Tryz.prog 132 #[.agg #[.int .i64 h,.int .i64 m,.int .i64 s,.int .i64 f,.int .i64 b,.bool d]] w fun e w'=>e=.returned (.tuple #[.int .i64 0,.int .i64 E])∧Gr w w') :
  Calls Tryz.prog 112 #[.agg #[.int .i64 h,.int .i64 m,.int .i64 s,.int .i64 f,.int .i64 b,.bool d]] w fun e w'=>e=.returned (.tuple #[.string ByteArray.empty,.int .i64 E])∧Gr w w':=by
 have HN:=Lib.hid H
 clear H
 rcases hE with rfl | rfl
 all_goals
  go_enter Tryz.func112,Tryz.ntmps112
  go_wp2_with (go_at_call 132;refine (HN.out _).mono ?_;rintro e w1 ⟨rfl,hg1⟩;obtain⟨hc1,hf1⟩:=hg1.cells;have hz1:=hg1.size;(try simp at hz1);(try have hl1_0_0:w.heap.size<w1.heap.size:=by omega);(try have hm1_0_0:w.heap.size≤w1.heap.size:=by omega);(try have hl1_0_1:w.heap.size+1<w1.heap.size:=by omega);(try have hl1_0_2:w.heap.size+2<w1.heap.size:=by omega))
  simp [bodyPost,results,Tryz.results112,go_sem]
  exact⟨rfl,(by repeat (first | refine Gr.setCell ?_ (by first | omega | (simp;done) | (simp;omega)) _ | refine Gr.alloc ?_ _ | refine Gr.drew ?_ | refine Gr.drewN ?_ _ | with_reducible assumption | with_reducible exact Gr.refl _ | refine Gr.trans ?_ (by with_reducible assumption)))⟩
end Go.Proofs.YtnginfangeikpaaGreatDoor.C19
