/-
  Plain arithmetic of timecodes: bases, days, minutes and their labels. No program in sight.
  Conditions: none.
-/
import Derived.Test.YtgbiodnfpbhjiaaGreatDoorKit
import Derived.Test.YtgbiodnfpbhjiaaGreatDoorChecked
import Derived.WalkKit
import Derived.WalkSpells
import Derived.WalkLawsBesides
namespace Go.Proofs.YtgbiodnfpbhjiaaGreatDoor.C19
open Go.RowKit
set_option linter.unusedVariables false
def isB (b:Int):Bool:=decide (b=24∨b=25∨b=30∨b=48∨b=50∨b=60)
def cdB (b:Int):Bool:=decide (b=30∨b=60)
def okB (b:Int) (d:Bool):Bool:=isB b && (!d || cdB b)
def drp (b:Int) (d:Bool):Int:=if d then b / 15 else 0
def dm (m b:Int) (d:Bool):Int:=if m % 10=0 then 0 else drp b d
def dayN (b:Int) (d:Bool):Int:=144 * (600 * b - 9 * drp b d)
def stN (b:Int) (d:Bool):Nat→Int
 | 0=>0
 | m+1=>stN b d m+60 * b - dm m b d
theorem stN_eq (b:Int) (d:Bool) (m:Nat):stN b d m=60 * (b * m) - drp b d * ((m:Int) - ((m:Int)+9) / 10):=by
 induction m with
 | zero=>simp [stN]
 | succ m ih=>
  rw [stN,ih]
  unfold dm
  have e1:b * ((m+1:Nat):Int)=b * m+b:=by rw [Int.natCast_add,Int.mul_add];simp
  rw [e1]
  split
  ·rename_i h
   have e2:(((m+1:Nat):Int) - (((m+1:Nat):Int)+9) / 10)=((m:Int) - ((m:Int)+9) / 10):=by omega
   rw [e2];omega
  ·rename_i h
   have e2:(((m+1:Nat):Int) - (((m+1:Nat):Int)+9) / 10)=((m:Int) - ((m:Int)+9) / 10)+1:=by omega
   have e3:drp b d * (((m:Int) - ((m:Int)+9) / 10)+1)=drp b d * ((m:Int) - ((m:Int)+9) / 10)+drp b d:=by rw [Int.mul_add (drp b d),Int.mul_one]
   rw [e2,e3];omega
theorem okB_cases {b:Int} {d:Bool} (h:okB b d=true) :
  (b=24∧d=false)∨(b=25∧d=false)∨(b=30∧d=false)∨(b=48∧d=false)∨(b=50∧d=false)∨(b=60∧d=false)∨(b=30∧d=true)∨(b=60∧d=true):=by
 unfold okB isB cdB at h
 cases d <;> simp at h ⊢ <;> omega
theorem okB_bounds {b:Int} {d:Bool} (h:okB b d=true):24≤b∧b≤60∧0≤drp b d∧drp b d≤4:=by
 rcases okB_cases h with ⟨rfl,rfl⟩ | ⟨rfl,rfl⟩ | ⟨rfl,rfl⟩ | ⟨rfl,rfl⟩ | ⟨rfl,rfl⟩ | ⟨rfl,rfl⟩ | ⟨rfl,rfl⟩ | ⟨rfl,rfl⟩ <;> decide
theorem dm_bounds {m b:Int} {d:Bool} (h:okB b d=true):0≤dm m b d∧dm m b d≤4:=by
 have:=okB_bounds h
 unfold dm;split <;> omega
def rMin (r b:Int) (d:Bool):Int:=
 if r % (600 * b - 9 * drp b d)<60 * b then r / (600 * b - 9 * drp b d) * 10
 else r / (600 * b - 9 * drp b d) * 10+(1+(r % (600 * b - 9 * drp b d) - 60 * b) / (60 * b - drp b d))
def rFrm (r b:Int) (d:Bool):Int:=
 if r % (600 * b - 9 * drp b d)<60 * b then r % (600 * b - 9 * drp b d)
 else drp b d+(r % (600 * b - 9 * drp b d) - 60 * b) % (60 * b - drp b d)
def lm (n b:Int) (d:Bool):Int:=rMin (n % dayN b d) b d
def lf (n b:Int) (d:Bool):Int:=rFrm (n % dayN b d) b d
theorem dayN_pos {b:Int} {d:Bool} (h:okB b d=true):0<dayN b d∧dayN b d≤5184000:=by
 rcases okB_cases h with ⟨rfl,rfl⟩ | ⟨rfl,rfl⟩ | ⟨rfl,rfl⟩ | ⟨rfl,rfl⟩ | ⟨rfl,rfl⟩ | ⟨rfl,rfl⟩ | ⟨rfl,rfl⟩ | ⟨rfl,rfl⟩ <;> decide
theorem r_bounds {r b:Int} {d:Bool} (h:okB b d=true) (h0:0≤r) (h1:r<dayN b d):0≤rMin r b d∧rMin r b d<1440∧0≤rFrm r b d∧rFrm r b d<60 * b:=by
 unfold rMin rFrm dayN at *
 rcases okB_cases h with ⟨rfl,rfl⟩ | ⟨rfl,rfl⟩ | ⟨rfl,rfl⟩ | ⟨rfl,rfl⟩ | ⟨rfl,rfl⟩ | ⟨rfl,rfl⟩ | ⟨rfl,rfl⟩ | ⟨rfl,rfl⟩ <;> simp only [drp,if_true,Bool.false_eq_true,if_false] at * <;> split <;> omega
theorem r_unique {r b:Int} {d:Bool} {m:Nat} (h:okB b d=true) (h0:0≤r) (h1:stN b d m≤r) (h2:r<stN b d (m+1)):(m:Int)=rMin r b d∧r - stN b d m+dm m b d=rFrm r b d:=by
 rw [stN_eq] at h2
 rw [stN_eq] at h1 ⊢
 unfold rMin rFrm dm
 have hm:(m:Int)=10 * ((m:Int) / 10)+(m:Int) % 10:=by omega
 have hs:((m+1:Nat):Int)=m+1:=by omega
 rw [hs] at h2
 generalize (m:Int)=M at *
 have hj0:0≤M % 10:=by omega
 have hj1:M % 10<10:=by omega
 generalize M / 10=q at *
 generalize hj:M % 10=j at *
 rcases okB_cases h with ⟨rfl,rfl⟩ | ⟨rfl,rfl⟩ | ⟨rfl,rfl⟩ | ⟨rfl,rfl⟩ | ⟨rfl,rfl⟩ | ⟨rfl,rfl⟩ | ⟨rfl,rfl⟩ | ⟨rfl,rfl⟩ <;> simp only [drp,if_true,Bool.false_eq_true,if_false] at *
 case inr.inr.inr.inr.inr.inr.inl | inr.inr.inr.inr.inr.inr.inr=>
  rcases (show j=0∨j=1∨j=2∨j=3∨j=4∨j=5∨j=6∨j=7∨j=8∨j=9 by omega) with rfl | rfl | rfl | rfl | rfl | rfl | rfl | rfl | rfl | rfl <;> subst hm <;> split <;> (try split) <;> omega
 all_goals (split <;> (try split) <;> omega)
theorem stN_mono (b:Int) (d:Bool) (h:okB b d=true) (i k:Nat):stN b d i≤stN b d (i+k):=by
 have hb:=okB_bounds h
 induction k with
 | zero=>exact Int.le_refl _
 | succ k ih=>
  have:=dm_bounds (m:=((i+k:Nat):Int)) h
  rw [← Nat.add_assoc,stN]
  omega
theorem stN_day (b:Int) (d:Bool):stN b d 1440=dayN b d:=by
 rw [stN_eq];unfold dayN;omega
theorem l_bounds {n b:Int} {d:Bool} (h:okB b d=true):0≤lm n b d∧lm n b d<1440∧0≤lf n b d∧lf n b d<60 * b:=by
 have hd:=dayN_pos h
 exact r_bounds h (Int.emod_nonneg _ (by omega)) (Int.emod_lt_of_pos _ hd.1)
theorem tmod_pos_cases {n d:Int} (hd:0<d) (h:n<0):(n % d=0→n.tmod d=0)∧(0<n % d→n.tmod d=n % d - d):=by
 have e:n.tmod d=-((-n) % d):=by
  have:=Int.neg_tmod (-n) d
  rw [Int.neg_neg] at this
  rw [this,Int.tmod_eq_emod_of_nonneg (by omega)]
 have h1:=Int.mul_ediv_add_emod n d
 have h2:=Int.emod_nonneg n (show d≠0 by omega)
 have h3:=Int.emod_lt_of_pos n hd
 rw [e]
 generalize n / d=q at *
 generalize n % d=r at *
 subst h1
 refine⟨fun h0=>?_,fun h0=>?_⟩
 ·subst h0
  rw [Int.add_zero,← Int.mul_neg,Int.mul_emod_right];rfl
 ·rw [show -(d * q+r)=(d - r)+d * (-q - 1) by rw [Int.mul_sub,Int.mul_neg,Int.mul_one];omega,Int.add_mul_emod_self_left,Int.emod_eq_of_lt (by omega) (by omega)]
  omega
set_option linter.unusedSimpArgs false
def I64 (x:Int):Prop:=-9223372036854775808≤x∧x≤9223372036854775807
set_option maxHeartbeats 400000 in
theorem isBase_any (b:Int) (w:World) :
  Calls Tryz.prog 77 #[.int .i64 b] w fun e w'=>e=.returned (.bool (isB b))∧w=w':=by
 rcases (show b=24∨b=25∨b=30∨b=48∨b=50∨b=60∨(b≠24∧b≠25∧b≠30∧b≠48∧b≠50∧b≠60) by omega) with rfl | rfl | rfl | rfl | rfl | rfl | ⟨c1,c2,c3,c4,c5,c6⟩
 case inr.inr.inr.inr.inr.inr=>
  have hb:isB b=false:=decide_eq_false (by omega)
  rw [hb]
  have d1:(b == 24)=false:=by simpa using c1
  have d2:(b == 25)=false:=by simpa using c2
  have d3:(b == 30)=false:=by simpa using c3
  have d4:(b == 48)=false:=by simpa using c4
  have d5:(b == 50)=false:=by simpa using c5
  have d6:(b == 60)=false:=by simpa using c6
  clear c1 c2 c3 c4 c5 c6 hb
  go_enter Tryz.func77,Tryz.ntmps77
  go_wp2
  go_ret
  exact⟨ret_bool rfl,rfl⟩
 all_goals
  go_enter Tryz.func77,Tryz.ntmps77
  go_wp2
  go_ret
  exact⟨ret_bool (by decide),rfl⟩
set_option maxHeartbeats 400000 in
theorem known_any (b:Int) (w:World) :
  Calls Tryz.prog 82 #[.int .i64 b] w fun e w'=>e=.returned (.bool (isB b))∧w=w':=by
 rcases (show b=24∨b=25∨b=30∨b=48∨b=50∨b=60∨(b≠24∧b≠25∧b≠30∧b≠48∧b≠50∧b≠60) by omega) with rfl | rfl | rfl | rfl | rfl | rfl | ⟨c1,c2,c3,c4,c5,c6⟩
 case inr.inr.inr.inr.inr.inr=>
  have hb:isB b=false:=decide_eq_false (by omega)
  rw [hb]
  have d1:(b == 24)=false:=by simpa using c1
  have d2:(b == 25)=false:=by simpa using c2
  have d3:(b == 30)=false:=by simpa using c3
  have d4:(b == 48)=false:=by simpa using c4
  have d5:(b == 50)=false:=by simpa using c5
  have d6:(b == 60)=false:=by simpa using c6
  clear c1 c2 c3 c4 c5 c6 hb
  go_enter Tryz.func82,Tryz.ntmps82
  go_wp2
  go_ret
  exact⟨ret_bool rfl,rfl⟩
 all_goals
  go_enter Tryz.func82,Tryz.ntmps82
  go_wp2
  go_ret
  exact⟨ret_bool (by decide),rfl⟩
set_option maxHeartbeats 400000 in
theorem canDrop_any (b:Int) (w:World) :
  Calls Tryz.prog 78 #[.int .i64 b] w fun e w'=>e=.returned (.bool (cdB b))∧w=w':=by
 rcases (show b=30∨b=60∨(b≠30∧b≠60) by omega) with rfl | rfl | ⟨c3,c6⟩
 case inr.inr=>
  have hb:cdB b=false:=decide_eq_false (by omega)
  rw [hb]
  have d3:(b == 30)=false:=by simpa using c3
  have d6:(b == 60)=false:=by simpa using c6
  clear c3 c6 hb
  go_enter Tryz.func78,Tryz.ntmps78
  go_wp2
  go_ret
  exact⟨ret_bool rfl,rfl⟩
 all_goals
  go_enter Tryz.func78,Tryz.ntmps78
  go_wp2
  go_ret
  exact⟨ret_bool (by decide),rfl⟩
set_option maxHeartbeats 400000 in
theorem dropped_any (b:Int) (d:Bool) (w:World) (h0:0≤b) (h1:b≤60) :
  Calls Tryz.prog 79 #[.int .i64 b,.bool d] w fun e w'=>e=.returned (.int .i64 (drp b d))∧w=w':=by
 cases d
 all_goals
  go_enter Tryz.func79,Tryz.ntmps79
  go_wp2
  go_ret
  exact⟨ret_int (by simp [drp]),rfl⟩
set_option maxHeartbeats 400000 in
theorem rdropped_any (m b:Int) (d:Bool) (w:World) (h0:0≤b) (h1:b≤60) (hm:0≤m) (hm1:m≤9223372036854775807) :
  Calls Tryz.prog 83 #[.int .i64 m,.int .i64 b,.bool d] w fun e w'=>e=.returned (.int .i64 (dm m b d))∧w=w':=by
 cases d
 ·go_enter Tryz.func83,Tryz.ntmps83
  go_wp2
  go_ret
  exact⟨ret_int (by simp [dm,drp]),rfl⟩
 ·by_cases c:m % 10=0
  ·have c':(m % 10 != 0)=false:=by simpa using c
   have HD:Hid (dm m b true=0):=if_pos c
   clear c
   go_enter Tryz.func83,Tryz.ntmps83
   go_wp2
   go_ret
   exact⟨ret_int HD.out.symm,rfl⟩
  ·have c':(m % 10 != 0)=true:=by simpa using c
   have HD:Hid (dm m b true=b / 15):=if_neg c
   clear c
   go_enter Tryz.func83,Tryz.ntmps83
   go_wp2
   go_ret
   exact⟨ret_int HD.out.symm,rfl⟩
theorem okB_false {b:Int} {d:Bool} (h:okB b d=false):isB b=false∨(isB b=true∧d=true∧cdB b=false):=by
 unfold okB at h
 cases h1:isB b <;> cases d <;> cases h2:cdB b <;> simp_all
theorem okB_true {b:Int} {d:Bool} (h:okB b d=true):isB b=true∧(d=false∨(d=true∧cdB b=true)):=by
 unfold okB at h
 cases h1:isB b <;> cases d <;> cases h2:cdB b <;> simp_all
set_option maxHeartbeats 400000 in
theorem day_no (b:Int) (d:Bool) (w:World) (h:okB b d=false) :
  Calls Tryz.prog 35 #[.int .i64 b,.bool d] w fun e w'=>e=.returned (.tuple #[.int .i64 0,.int .i64 1])∧w=w':=by
 rcases okB_false h with h1 | ⟨h1,rfl,h2⟩
 all_goals
  clear h
  go_enter Tryz.func35,Tryz.ntmps35
  go_wp2_with (first
   | (go_at_call 77;refine (isBase_any _ _).mono ?_;rintro e w' ⟨rfl,rfl⟩)
   | (go_at_call 78;refine (canDrop_any _ _).mono ?_;rintro e w' ⟨rfl,rfl⟩))
  go_ret2
  exact⟨rfl,rfl⟩
set_option maxHeartbeats 400000 in
theorem day_yes (b:Int) (d:Bool) (w:World) (h:okB b d=true) :
  Calls Tryz.prog 35 #[.int .i64 b,.bool d] w fun e w'=>e=.returned (.tuple #[.int .i64 (dayN b d),.int .i64 0])∧w=w':=by
 obtain⟨b1,b2,b3,b4⟩:=okB_bounds h
 have HD:Hid (dayN b d=144 * (600 * b - 9 * drp b d)):=rfl
 obtain⟨h1,h2⟩:=okB_true h
 rcases h2 with rfl | ⟨rfl,h2⟩
 all_goals
  clear h
  go_enter Tryz.func35,Tryz.ntmps35
  go_wp2_with (first
   | (go_at_call 77;refine (isBase_any _ _).mono ?_;rintro e w' ⟨rfl,rfl⟩)
   | (go_at_call 78;refine (canDrop_any _ _).mono ?_;rintro e w' ⟨rfl,rfl⟩)
   | (go_at_call 79;refine (dropped_any _ _ _ (by omega) (by omega)).mono ?_;rintro e w' ⟨rfl,rfl⟩))
  go_ret2
  exact⟨by rw [HD.out];rfl,rfl⟩
set_option maxHeartbeats 400000 in
theorem modulo_any (n m:Int) (w:World) (hn:I64 n) (h0:0<m) (h1:m≤9223372036854775807) :
  Calls Tryz.prog 175 #[.int .i64 n,.int .i64 m] w fun e w'=>e=.returned (.int .i64 (n % m))∧w=w':=by
 obtain⟨n1,n2⟩:=hn
 have p0:0≤n % m:=Int.emod_nonneg _ (by omega)
 have p1:n % m<m:=Int.emod_lt_of_pos _ h0
 have ht:=tmod_pos_cases (n:=n) h0
 rcases (show 0≤n∨(n<0∧n % m=0)∨(n<0∧0<n % m) by omega) with c | ⟨c,c'⟩ | ⟨c,c'⟩
 ·clear ht
  go_enter Tryz.func175,Tryz.ntmps175
  go_wp2
  go_ret
  exact⟨ret_int rfl,rfl⟩
 ·have e:=(ht c).1 c'
  have HR:=Lib.hid c'
  clear ht c'
  go_enter Tryz.func175,Tryz.ntmps175
  go_wp2
  go_ret
  exact⟨ret_int (by rw [HR.out]),rfl⟩
 ·have e:=(ht c).2 c'
  clear ht
  go_enter Tryz.func175,Tryz.ntmps175
  go_wp2
  go_ret
  exact⟨ret_int (by omega),rfl⟩
set_option maxHeartbeats 400000 in
theorem rday_no (b:Int) (d:Bool) (w:World) (h:okB b d=false) :
  Calls Tryz.prog 38 #[.int .i64 b,.bool d] w fun e w'=>e=.returned (.tuple #[.int .i64 0,.int .i64 1])∧w=w':=by
 rcases okB_false h with h1 | ⟨h1,rfl,h2⟩
 ·clear h
  go_enter Tryz.func38,Tryz.ntmps38
  go_wp2_with (go_at_call 82;refine (known_any _ _).mono ?_;rintro e w' ⟨rfl,rfl⟩)
  go_ret2
  exact⟨rfl,rfl⟩
 ·have h3:(b != 30)=true:=by unfold cdB at h2;simp at h2 ⊢;omega
  have h4:(b != 60)=true:=by unfold cdB at h2;simp at h2 ⊢;omega
  clear h h2
  go_enter Tryz.func38,Tryz.ntmps38
  go_wp2_with (go_at_call 82;refine (known_any _ _).mono ?_;rintro e w' ⟨rfl,rfl⟩)
  go_ret2
  exact⟨rfl,rfl⟩
theorem stN_bounds {b:Int} {d:Bool} {k:Nat} (h:okB b d=true) (hk:k≤1440):0≤stN b d k∧stN b d k≤dayN b d:=by
 have h1:=stN_mono b d h 0 k
 have h2:=stN_mono b d h k (1440 - k)
 rw [show k+(1440 - k)=1440 by omega,stN_day] at h2
 rw [Nat.zero_add] at h1
 exact⟨h1,h2⟩
set_option maxRecDepth 100000 in
set_option maxHeartbeats 1000000 in
theorem rday_f (b:Int) (w:World) (h:okB b false=true) (hb:True) :
  Calls Tryz.prog 38 #[.int .i64 b,.bool false] w fun e w'=>e=.returned (.tuple #[.int .i64 (dayN b false),.int .i64 0])∧w=w':=by
 try subst hb
 obtain⟨b1,b2,b3,b4⟩:=okB_bounds h
 obtain⟨D,hD⟩:∃ D,dayN b false=D:=⟨_,rfl⟩
 have hDb:=(dayN_pos h).2
 rw [hD] at hDb ⊢
 have HD:Hid (∀ j:Nat,¬ j<1440→j≤1440→stN b false j=D):=(fun j h1 h2=>by rw [show j=1440 by omega];exact (stN_day b false).trans hD:∀ j:Nat,¬ j<1440→j≤1440→stN b false j=D)
 have HO:=Lib.hid h
 obtain⟨h1,h2⟩:=okB_true h
 have hD:=Lib.hid hD
 clear h h2 b3 b4
 go_enter Tryz.func38,Tryz.ntmps38
 go_wp2_with (go_at_call 82;refine (known_any _ _).mono ?_;rintro e w' ⟨rfl,rfl⟩)
 go_loop [6,7] (fun n m=>∃ k:Nat,k≤1440∧m=.int .i64 k∧n=.int .i64 (stN b false k)) (fun _ m=>1440 - (intOf m).toNat)
 case atStart=>exact⟨0,by omega,rfl,rfl⟩
 case round=>
  obtain⟨k,hk,rfl,rfl⟩:=hrel
  by_cases hlt:k<1440
  ·obtain⟨s,hs⟩:∃ s,stN b false k=s:=⟨_,rfl⟩
   obtain⟨δ,hδ⟩:∃ δ,dm (k:Int) b false=δ:=⟨_,rfl⟩
   have sb:=stN_bounds HO.out (show k≤1440 by omega)
   have db:=dm_bounds (m:=(k:Int)) HO.out
   rw [hD.out] at sb
   rw [hs] at sb ⊢
   rw [hδ] at db
   have HS:Hid (stN b false (k+1)=s+60 * b - δ):=(by rw [← hs,← hδ];rfl:stN b false (k+1)=s+60 * b - δ)
   have HC:Hid (∀ w,Calls Tryz.prog 83 #[.int .i64 k,.int .i64 b,.bool false] w fun e w'=>e=.returned (.int .i64 δ)∧w=w'):=(fun w=>by rw [← hδ];exact rdropped_any (k:Int) b false w (by omega) (by omega) (by omega) (by omega):∀ w,Calls Tryz.prog 83 #[.int .i64 k,.int .i64 b,.bool false] w fun e w'=>e=.returned (.int .i64 δ)∧w=w')
   obtain⟨sb1,sb2⟩:=sb
   obtain⟨db1,db2⟩:=db
   clear hs hδ
   go_wp2_with (go_at_call 83;refine (HC.out _).mono ?_;rintro e w' ⟨rfl,rfl⟩)
   go_round
   case rel=>exact⟨k+1,by omega,by go_num,by rw [HS.out];try rfl⟩
   case measure=>simp [intOf];omega
  ·have hs:stN b false k=D:=HD.out k hlt hk
   rw [hs]
   clear hs
   go_wp2
   go_ret2
   exact⟨rfl,rfl⟩
set_option maxRecDepth 100000 in
set_option maxHeartbeats 1000000 in
theorem rday_30 (b:Int) (w:World) (h:okB b true=true) (hb:b=30) :
  Calls Tryz.prog 38 #[.int .i64 b,.bool true] w fun e w'=>e=.returned (.tuple #[.int .i64 (dayN b true),.int .i64 0])∧w=w':=by
 try subst hb
 obtain⟨b1,b2,b3,b4⟩:=okB_bounds h
 obtain⟨D,hD⟩:∃ D,dayN 30 true=D:=⟨_,rfl⟩
 have hDb:=(dayN_pos h).2
 rw [hD] at hDb ⊢
 have HD:Hid (∀ j:Nat,¬ j<1440→j≤1440→stN 30 true j=D):=(fun j h1 h2=>by rw [show j=1440 by omega];exact (stN_day 30 true).trans hD:∀ j:Nat,¬ j<1440→j≤1440→stN 30 true j=D)
 have HO:=Lib.hid h
 obtain⟨h1,h2⟩:=okB_true h
 have hD:=Lib.hid hD
 clear h h2 b3 b4
 go_enter Tryz.func38,Tryz.ntmps38
 go_wp2_with (go_at_call 82;refine (known_any _ _).mono ?_;rintro e w' ⟨rfl,rfl⟩)
 go_loop [6,7] (fun n m=>∃ k:Nat,k≤1440∧m=.int .i64 k∧n=.int .i64 (stN 30 true k)) (fun _ m=>1440 - (intOf m).toNat)
 case atStart=>exact⟨0,by omega,rfl,rfl⟩
 case round=>
  obtain⟨k,hk,rfl,rfl⟩:=hrel
  by_cases hlt:k<1440
  ·obtain⟨s,hs⟩:∃ s,stN 30 true k=s:=⟨_,rfl⟩
   obtain⟨δ,hδ⟩:∃ δ,dm (k:Int) 30 true=δ:=⟨_,rfl⟩
   have sb:=stN_bounds HO.out (show k≤1440 by omega)
   have db:=dm_bounds (m:=(k:Int)) HO.out
   rw [hD.out] at sb
   rw [hs] at sb ⊢
   rw [hδ] at db
   have HS:Hid (stN 30 true (k+1)=s+60 * 30 - δ):=(by rw [← hs,← hδ];rfl:stN 30 true (k+1)=s+60 * 30 - δ)
   have HC:Hid (∀ w,Calls Tryz.prog 83 #[.int .i64 k,.int .i64 30,.bool true] w fun e w'=>e=.returned (.int .i64 δ)∧w=w'):=(fun w=>by rw [← hδ];exact rdropped_any (k:Int) 30 true w (by omega) (by omega) (by omega) (by omega):∀ w,Calls Tryz.prog 83 #[.int .i64 k,.int .i64 30,.bool true] w fun e w'=>e=.returned (.int .i64 δ)∧w=w')
   obtain⟨sb1,sb2⟩:=sb
   obtain⟨db1,db2⟩:=db
   clear hs hδ
   go_wp2_with (go_at_call 83;refine (HC.out _).mono ?_;rintro e w' ⟨rfl,rfl⟩)
   go_round
   case rel=>exact⟨k+1,by omega,by go_num,by rw [HS.out];try rfl⟩
   case measure=>simp [intOf];omega
  ·have hs:stN 30 true k=D:=HD.out k hlt hk
   rw [hs]
   clear hs
   go_wp2
   go_ret2
   exact⟨rfl,rfl⟩
set_option maxRecDepth 100000 in
set_option maxHeartbeats 1000000 in
theorem rday_60 (b:Int) (w:World) (h:okB b true=true) (hb:b=60) :
  Calls Tryz.prog 38 #[.int .i64 b,.bool true] w fun e w'=>e=.returned (.tuple #[.int .i64 (dayN b true),.int .i64 0])∧w=w':=by
 try subst hb
 obtain⟨b1,b2,b3,b4⟩:=okB_bounds h
 obtain⟨D,hD⟩:∃ D,dayN 60 true=D:=⟨_,rfl⟩
 have hDb:=(dayN_pos h).2
 rw [hD] at hDb ⊢
 have HD:Hid (∀ j:Nat,¬ j<1440→j≤1440→stN 60 true j=D):=(fun j h1 h2=>by rw [show j=1440 by omega];exact (stN_day 60 true).trans hD:∀ j:Nat,¬ j<1440→j≤1440→stN 60 true j=D)
 have HO:=Lib.hid h
 obtain⟨h1,h2⟩:=okB_true h
 have hD:=Lib.hid hD
 clear h h2 b3 b4
 go_enter Tryz.func38,Tryz.ntmps38
 go_wp2_with (go_at_call 82;refine (known_any _ _).mono ?_;rintro e w' ⟨rfl,rfl⟩)
 go_loop [6,7] (fun n m=>∃ k:Nat,k≤1440∧m=.int .i64 k∧n=.int .i64 (stN 60 true k)) (fun _ m=>1440 - (intOf m).toNat)
 case atStart=>exact⟨0,by omega,rfl,rfl⟩
 case round=>
  obtain⟨k,hk,rfl,rfl⟩:=hrel
  by_cases hlt:k<1440
  ·obtain⟨s,hs⟩:∃ s,stN 60 true k=s:=⟨_,rfl⟩
   obtain⟨δ,hδ⟩:∃ δ,dm (k:Int) 60 true=δ:=⟨_,rfl⟩
   have sb:=stN_bounds HO.out (show k≤1440 by omega)
   have db:=dm_bounds (m:=(k:Int)) HO.out
   rw [hD.out] at sb
   rw [hs] at sb ⊢
   rw [hδ] at db
   have HS:Hid (stN 60 true (k+1)=s+60 * 60 - δ):=(by rw [← hs,← hδ];rfl:stN 60 true (k+1)=s+60 * 60 - δ)
   have HC:Hid (∀ w,Calls Tryz.prog 83 #[.int .i64 k,.int .i64 60,.bool true] w fun e w'=>e=.returned (.int .i64 δ)∧w=w'):=(fun w=>by rw [← hδ];exact rdropped_any (k:Int) 60 true w (by omega) (by omega) (by omega) (by omega):∀ w,Calls Tryz.prog 83 #[.int .i64 k,.int .i64 60,.bool true] w fun e w'=>e=.returned (.int .i64 δ)∧w=w')
   obtain⟨sb1,sb2⟩:=sb
   obtain⟨db1,db2⟩:=db
   clear hs hδ
   go_wp2_with (go_at_call 83;refine (HC.out _).mono ?_;rintro e w' ⟨rfl,rfl⟩)
   go_round
   case rel=>exact⟨k+1,by omega,by go_num,by rw [HS.out];try rfl⟩
   case measure=>simp [intOf];omega
  ·have hs:stN 60 true k=D:=HD.out k hlt hk
   rw [hs]
   clear hs
   go_wp2
   go_ret2
   exact⟨rfl,rfl⟩
theorem rday_yes (b:Int) (d:Bool) (w:World) (h:okB b d=true) :
  Calls Tryz.prog 38 #[.int .i64 b,.bool d] w fun e w'=>e=.returned (.tuple #[.int .i64 (dayN b d),.int .i64 0])∧w=w':=by
 cases d
 ·exact rday_f b w h trivial
 ·rcases okB_cases h with ⟨rfl,h2⟩ | ⟨rfl,h2⟩ | ⟨rfl,h2⟩ | ⟨rfl,h2⟩ | ⟨rfl,h2⟩ | ⟨rfl,h2⟩ | ⟨rfl,h2⟩ | ⟨rfl,h2⟩
  all_goals first
   | exact absurd h2 (by decide)
   | exact rday_30 _ w h rfl
   | exact rday_60 _ w h rfl
set_option maxHeartbeats 1000000 in
theorem label_any (n b:Int) (d:Bool) (w:World) (hn:I64 n) (h:okB b d=true) :
  Calls Tryz.prog 133 #[.int .i64 n,.int .i64 b,.bool d] w fun e w'=>e=.returned (.tuple #[.agg #[.int .i64 (lm n b d / 60),.int .i64 (lm n b d % 60),.int .i64 (lf n b d / b),.int .i64 (lf n b d % b),.int .i64 b,.bool d],.int .i64 0])∧Gr w w':=by
 obtain⟨b1,b2,b3,b4⟩:=okB_bounds h
 obtain⟨hD1,hD2⟩:=dayN_pos h
 have lb:=l_bounds (n:=n) h
 have HDY:=Lib.hid (fun w=>day_yes b d w h)
 have HMO:=Lib.hid (fun w=>modulo_any n (dayN b d) w hn hD1 (by omega))
 have HDR:=Lib.hid (fun w=>dropped_any b d w (by omega) (by omega))
 have r0:0≤n % dayN b d:=Int.emod_nonneg _ (by omega)
 have r1:n % dayN b d<dayN b d:=Int.emod_lt_of_pos _ hD1
 have HM:Hid (lm n b d=if n % dayN b d % (600 * b - 9 * drp b d)<60 * b then n % dayN b d / (600 * b - 9 * drp b d) * 10
  else n % dayN b d / (600 * b - 9 * drp b d) * 10+(1+(n % dayN b d % (600 * b - 9 * drp b d) - 60 * b) / (60 * b - drp b d))):=rfl
 have HF:Hid (lf n b d=if n % dayN b d % (600 * b - 9 * drp b d)<60 * b then n % dayN b d % (600 * b - 9 * drp b d)
  else drp b d+(n % dayN b d % (600 * b - 9 * drp b d) - 60 * b) % (60 * b - drp b d)):=rfl
 generalize lm n b d=M at *
 generalize lf n b d=F at *
 generalize n % dayN b d=r at *
 generalize dayN b d=D at *
 generalize drp b d=k at *
 clear hD1 h
 have q0:0≤r / (600 * b - 9 * k):=Int.ediv_nonneg r0 (by omega)
 have q1:r / (600 * b - 9 * k)≤r:=Int.ediv_le_self _ r0
 have m0:0≤r % (600 * b - 9 * k):=Int.emod_nonneg _ (by omega)
 have m1:r % (600 * b - 9 * k)<600 * b - 9 * k:=Int.emod_lt_of_pos _ (by omega)
 obtain⟨l1,l2,l3,l4⟩:=lb
 by_cases hc:r % (600 * b - 9 * k)<60 * b
 ·have HM:=Lib.hid (HM.out.trans (if_pos hc))
  have HF:=Lib.hid (HF.out.trans (if_pos hc))
  have s0:0≤r % (600 * b - 9 * k) / b:=Int.ediv_nonneg m0 (by omega)
  have s1:r % (600 * b - 9 * k) / b≤r % (600 * b - 9 * k):=Int.ediv_le_self _ m0
  have s2:0≤r % (600 * b - 9 * k) % b:=Int.emod_nonneg _ (by omega)
  have s3:r % (600 * b - 9 * k) % b<b:=Int.emod_lt_of_pos _ (by omega)
  go_enter Tryz.func133,Tryz.ntmps133
  go_wp2_with (first
   | (go_at_call 35;refine (HDY.out _).mono ?_;rintro e w' ⟨rfl,rfl⟩)
   | (go_at_call 175;refine (HMO.out _).mono ?_;rintro e w' ⟨rfl,rfl⟩)
   | (go_at_call 79;refine (HDR.out _).mono ?_;rintro e w' ⟨rfl,rfl⟩))
  refine wp_region_gr (by kernel_rfl) (by kernel_rfl) (fun hq1 hq2=>?_)
  repeat (first | go_big_quiet_skip | (go_big_quiet_want;go_big_quiet_op;first | go_big_quiet_on | (apply Exists.intro;refine⟨fun _=>?_,?_⟩;(· (fail));go_big_quiet_on)))
  refine wpQuiet_nil ?_
  clear hq1 hq2
  rintro w1 ⟨⟨_,hg1⟩,rfl⟩
  obtain⟨hc1,hf1⟩:=hg1.cells
  have hz1:=hg1.size
  (try simp at hz1);(try have hl1_0_0:w.heap.size<w1.heap.size:=by omega);(try have hm1_0_0:w.heap.size≤w1.heap.size:=by omega);(try have hl1_0_1:w.heap.size+1<w1.heap.size:=by omega);(try have hl1_0_2:w.heap.size+2<w1.heap.size:=by omega)
  go_wp2
  refine wp_region_gr_tail 13 (by kernel_rfl) (by kernel_rfl) (fun hq1 hq2=>?_)
  simp only [List.take_succ_cons,List.take_zero,List.drop_succ_cons,List.drop_zero]
  repeat (first | go_big_quiet_skip | (go_big_quiet_want;go_big_quiet_op;first | go_big_quiet_on | (apply Exists.intro;refine⟨fun _=>?_,?_⟩;(· (fail));go_big_quiet_on)))
  refine wpQuiet_nil ?_
  clear hq1 hq2
  rintro w2 ⟨⟨_,hg2⟩,rfl⟩
  obtain⟨hc2,hf2⟩:=hg2.cells
  have hz2:=hg2.size
  (try simp at hz2);(try have hl2_0_0:w.heap.size<w2.heap.size:=by omega);(try have hm2_0_0:w.heap.size≤w2.heap.size:=by omega);(try have hl2_0_1:w.heap.size+1<w2.heap.size:=by omega);(try have hl2_0_2:w.heap.size+2<w2.heap.size:=by omega);(try have hl2_1_0:w1.heap.size<w2.heap.size:=by omega);(try have hm2_1_0:w1.heap.size≤w2.heap.size:=by omega);(try have hl2_1_1:w1.heap.size+1<w2.heap.size:=by omega);(try have hl2_1_2:w1.heap.size+2<w2.heap.size:=by omega)
  go_wp2
  simp [bodyPost,results,Tryz.results133,go_sem,hc2,hf2,hc1,hf1,hl1_0_0]
  refine⟨?_,(by repeat (first | refine Gr.setCell ?_ (by first | omega | (simp;done) | (simp;omega)) _ | refine Gr.alloc ?_ _ | refine Gr.drew ?_ | refine Gr.drewN ?_ _ | with_reducible assumption | with_reducible exact Gr.refl _ | refine Gr.trans ?_ (by with_reducible assumption)))⟩
  rw [HM.out,HF.out]
  exact⟨rfl,rfl,rfl,rfl⟩
 ·have HM:=Lib.hid (HM.out.trans (if_neg hc))
  have HF:=Lib.hid (HF.out.trans (if_neg hc))
  have f0:0≤r % (600 * b - 9 * k) - 60 * b:=by omega
  have u0:0≤(r % (600 * b - 9 * k) - 60 * b) / (60 * b - k):=Int.ediv_nonneg f0 (by omega)
  have u1:(r % (600 * b - 9 * k) - 60 * b) / (60 * b - k)≤r % (600 * b - 9 * k) - 60 * b:=Int.ediv_le_self _ f0
  have v0:0≤(r % (600 * b - 9 * k) - 60 * b) % (60 * b - k):=Int.emod_nonneg _ (by omega)
  have v1:(r % (600 * b - 9 * k) - 60 * b) % (60 * b - k)<60 * b - k:=Int.emod_lt_of_pos _ (by omega)
  have y0:0≤k+(r % (600 * b - 9 * k) - 60 * b) % (60 * b - k):=by omega
  have s0:0≤(k+(r % (600 * b - 9 * k) - 60 * b) % (60 * b - k)) / b:=Int.ediv_nonneg y0 (by omega)
  have s1:(k+(r % (600 * b - 9 * k) - 60 * b) % (60 * b - k)) / b≤k+(r % (600 * b - 9 * k) - 60 * b) % (60 * b - k):=Int.ediv_le_self _ y0
  have s2:0≤(k+(r % (600 * b - 9 * k) - 60 * b) % (60 * b - k)) % b:=Int.emod_nonneg _ (by omega)
  have s3:(k+(r % (600 * b - 9 * k) - 60 * b) % (60 * b - k)) % b<b:=Int.emod_lt_of_pos _ (by omega)
  go_enter Tryz.func133,Tryz.ntmps133
  go_wp2_with (first
   | (go_at_call 35;refine (HDY.out _).mono ?_;rintro e w' ⟨rfl,rfl⟩)
   | (go_at_call 175;refine (HMO.out _).mono ?_;rintro e w' ⟨rfl,rfl⟩)
   | (go_at_call 79;refine (HDR.out _).mono ?_;rintro e w' ⟨rfl,rfl⟩))
  refine wp_region_gr (by kernel_rfl) (by kernel_rfl) (fun hq1 hq2=>?_)
  repeat (first | go_big_quiet_skip | (go_big_quiet_want;go_big_quiet_op;first | go_big_quiet_on | (apply Exists.intro;refine⟨fun _=>?_,?_⟩;(· (fail));go_big_quiet_on)))
  refine wpQuiet_nil ?_
  clear hq1 hq2
  rintro w1 ⟨⟨_,hg1⟩,rfl⟩
  obtain⟨hc1,hf1⟩:=hg1.cells
  have hz1:=hg1.size
  (try simp at hz1);(try have hl1_0_0:w.heap.size<w1.heap.size:=by omega);(try have hm1_0_0:w.heap.size≤w1.heap.size:=by omega);(try have hl1_0_1:w.heap.size+1<w1.heap.size:=by omega);(try have hl1_0_2:w.heap.size+2<w1.heap.size:=by omega)
  go_wp2
  refine wp_region_gr_tail 13 (by kernel_rfl) (by kernel_rfl) (fun hq1 hq2=>?_)
  simp only [List.take_succ_cons,List.take_zero,List.drop_succ_cons,List.drop_zero]
  repeat (first | go_big_quiet_skip | (go_big_quiet_want;go_big_quiet_op;first | go_big_quiet_on | (apply Exists.intro;refine⟨fun _=>?_,?_⟩;(· (fail));go_big_quiet_on)))
  refine wpQuiet_nil ?_
  clear hq1 hq2
  rintro w2 ⟨⟨_,hg2⟩,rfl⟩
  obtain⟨hc2,hf2⟩:=hg2.cells
  have hz2:=hg2.size
  (try simp at hz2);(try have hl2_0_0:w.heap.size<w2.heap.size:=by omega);(try have hm2_0_0:w.heap.size≤w2.heap.size:=by omega);(try have hl2_0_1:w.heap.size+1<w2.heap.size:=by omega);(try have hl2_0_2:w.heap.size+2<w2.heap.size:=by omega);(try have hl2_1_0:w1.heap.size<w2.heap.size:=by omega);(try have hm2_1_0:w1.heap.size≤w2.heap.size:=by omega);(try have hl2_1_1:w1.heap.size+1<w2.heap.size:=by omega);(try have hl2_1_2:w1.heap.size+2<w2.heap.size:=by omega)
  go_wp2
  simp [bodyPost,results,Tryz.results133,go_sem,hc2,hf2,hc1,hf1,hl1_0_0]
  refine⟨?_,(by repeat (first | refine Gr.setCell ?_ (by first | omega | (simp;done) | (simp;omega)) _ | refine Gr.alloc ?_ _ | refine Gr.drew ?_ | refine Gr.drewN ?_ _ | with_reducible assumption | with_reducible exact Gr.refl _ | refine Gr.trans ?_ (by with_reducible assumption)))⟩
  rw [HM.out,HF.out]
  exact⟨rfl,rfl,rfl,rfl⟩
set_option maxRecDepth 100000 in
set_option maxHeartbeats 1000000 in
theorem rlabel_any (n b:Int) (d:Bool) (w:World) (hn:I64 n) (h:okB b d=true) :
  Calls Tryz.prog 104 #[.int .i64 n,.int .i64 b,.bool d] w fun e w'=>e=.returned (.tuple #[.agg #[.int .i64 (lm n b d / 60),.int .i64 (lm n b d % 60),.int .i64 (lf n b d / b),.int .i64 (lf n b d % b),.int .i64 b,.bool d],.int .i64 0])∧Gr w w':=by
 obtain⟨b1,b2,b3,b4⟩:=okB_bounds h
 obtain⟨hD1,hD2⟩:=dayN_pos h
 have lb:=l_bounds (n:=n) h
 have HDY:=Lib.hid (fun w=>rday_yes b d w h)
 have r0:0≤n % dayN b d:=Int.emod_nonneg _ (by omega)
 have r1:n % dayN b d<dayN b d:=Int.emod_lt_of_pos _ hD1
 have HU:Hid (∀ m:Nat,stN b d m≤n % dayN b d→n % dayN b d<stN b d (m+1)→(m:Int)=lm n b d∧n % dayN b d - stN b d m+dm m b d=lf n b d):=(fun m h1 h2=>r_unique h r0 h1 h2:∀ m:Nat,stN b d m≤n % dayN b d→n % dayN b d<stN b d (m+1)→(m:Int)=lm n b d∧n % dayN b d - stN b d m+dm m b d=lf n b d)
 have HO:=Lib.hid h
 have HE:Hid (∀ m:Nat,stN b d m≤n % dayN b d→m<1440):=(fun m h1=>by
  rcases Nat.lt_or_ge m 1440 with h2 | h2
  ·exact h2
  ·have h3:=stN_mono b d h 1440 (m - 1440)
   rw [show 1440+(m - 1440)=m by omega,stN_day] at h3
   omega:∀ m:Nat,stN b d m≤n % dayN b d→m<1440)
 have HT:∃ t,(0≤n→n % dayN b d=t)∧(n<0→n.tmod (dayN b d)=t)∧(t+dayN b d) % dayN b d=n % dayN b d∧-dayN b d<t∧t<dayN b d:=by
  rcases (show 0≤n∨n<0 by omega) with c | c
  ·refine⟨n % dayN b d,fun _=>rfl,fun h=>by omega,?_,by omega,r1⟩
   rw [Int.add_emod_right,Int.emod_emod_of_dvd _ (Int.dvd_refl _)]
  ·have ht:=tmod_pos_cases (n:=n) hD1 c
   rcases (show n % dayN b d=0∨0<n % dayN b d by omega) with c' | c'
   ·refine⟨0,fun h=>by omega,fun _=>ht.1 c',?_,by omega,by omega⟩
    rw [Int.zero_add,Int.emod_self,c']
   ·refine⟨n % dayN b d - dayN b d,fun h=>by omega,fun _=>ht.2 c',?_,by omega,by omega⟩
    rw [Int.sub_add_cancel,Int.emod_emod_of_dvd _ (Int.dvd_refl _)]
 obtain⟨t,t1,t2,t3,t4,t5⟩:=HT
 obtain⟨n1,n2⟩:=hn
 generalize lm n b d=M at *
 generalize lf n b d=F at *
 generalize hr:n % dayN b d=r at *
 generalize dayN b d=D at *
 clear hD1 h
 obtain⟨l1,l2,l3,l4⟩:=lb
 have hX:(0≤n∧n % D=t)∨(n<0∧n.tmod D=t):=by
  rcases (show 0≤n∨n<0 by omega) with c | c
  ·exact .inl ⟨c,by rw [hr];exact t1 c⟩
  ·exact .inr ⟨c,t2 c⟩
 clear t1 t2 hr
 rcases hX with ⟨c,c'⟩ | ⟨c,c'⟩
 all_goals
  go_enter Tryz.func104,Tryz.ntmps104
  go_wp2_with (go_at_call 38;refine (HDY.out _).mono ?_;rintro e w' ⟨rfl,rfl⟩)
  rw [t3]
  clear t3 c'
  go_loop [0,10] (fun x m=>∃ k:Nat,k<1440∧Hid (stN b d k≤r)∧m=.int .i64 k∧x=.int .i64 (r - stN b d k)) (fun _ m=>1440 - (intOf m).toNat)
  case atStart=>exact⟨0,by omega,r0,rfl,by simp [stN]⟩
  case round=>
   obtain⟨k,hk,hs,rfl,rfl⟩:=hrel
   have sb:=stN_bounds HO.out (show k≤1440 by omega)
   have db:=dm_bounds (m:=(k:Int)) HO.out
   have hle:=hs.out
   have HC:=Lib.hid (fun w=>rdropped_any (k:Int) b d w (by omega) (by omega) (by omega) (by omega))
   have HU:=Lib.hid (HU.out k hs.out)
   have HE:=Lib.hid (HE.out (k+1))
   have HS:Hid (stN b d (k+1)=stN b d k+60 * b - dm (k:Int) b d):=rfl
   generalize hS:stN b d k=s at *
   generalize dm (k:Int) b d=δ at *
   clear hS
   by_cases hlt:60 * b - δ≤r - s
   ·go_wp2_with (go_at_call 83;refine (HC.out _).mono ?_;rintro e w' ⟨rfl,rfl⟩)
    have he:=HE.out (by rw [HS.out];omega)
    go_round
    case rel=>exact⟨k+1,he,(by show stN b d (k+1)≤r;rw [HS.out];omega),by go_num,by rw [HS.out,show r - (s+60 * b - δ)=r - s - 60 * b+δ by omega]⟩
    case measure=>simp [intOf];omega
   ·obtain⟨m1,m2⟩:=HU.out (by rw [HS.out];omega)
    subst m1
    subst m2
    have s0:0≤(r - s+δ) / b:=Int.ediv_nonneg l3 (by omega)
    have s1:(r - s+δ) / b≤r - s+δ:=Int.ediv_le_self _ l3
    have s2:0≤(r - s+δ) % b:=Int.emod_nonneg _ (by omega)
    have s3:(r - s+δ) % b<b:=Int.emod_lt_of_pos _ (by omega)
    go_wp2_with (go_at_call 83;refine (HC.out _).mono ?_;rintro e w' ⟨rfl,rfl⟩)
    refine wp_region_gr_tail 13 (by kernel_rfl) (by kernel_rfl) (fun hq1 hq2=>?_)
    simp only [List.take_succ_cons,List.take_zero,List.drop_succ_cons,List.drop_zero]
    repeat (first | go_big_quiet_skip | (go_big_quiet_want;go_big_quiet_op;first | go_big_quiet_on | (apply Exists.intro;refine⟨fun _=>?_,?_⟩;(· (fail));go_big_quiet_on)))
    refine wpQuiet_nil ?_
    clear hq1 hq2
    rintro w1 ⟨⟨_,hg1⟩,rfl⟩
    obtain⟨hc1,hf1⟩:=hg1.cells
    have hz1:=hg1.size
    (try simp at hz1);(try have hl1_0_0:w.heap.size<w1.heap.size:=by omega);(try have hm1_0_0:w.heap.size≤w1.heap.size:=by omega);(try have hl1_0_1:w.heap.size+1<w1.heap.size:=by omega);(try have hl1_0_2:w.heap.size+2<w1.heap.size:=by omega)
    go_wp2
    simp [bodyPost,results,Tryz.results104,go_sem,hc1,hf1]
    exact (by repeat (first | refine Gr.setCell ?_ (by first | omega | (simp;done) | (simp;omega)) _ | refine Gr.alloc ?_ _ | refine Gr.drew ?_ | refine Gr.drewN ?_ _ | with_reducible assumption | with_reducible exact Gr.refl _ | refine Gr.trans ?_ (by with_reducible assumption)))
end Go.Proofs.YtgbiodnfpbhjiaaGreatDoor.C19
