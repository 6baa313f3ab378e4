/-
  Plain arithmetic of timecodes: bases, days, minutes and their labels. No program in sight.
  Conditions: none.
-/
import Derived.Test.YtnginfangeikpaaGreatDoorKit
import Derived.Test.YtnginfangeikpaaGreatDoorChecked
import Derived.WalkKit
import Derived.WalkSpells
import Derived.WalkLawsBesides
namespace Go.Proofs.YtnginfangeikpaaGreatDoor.C19
open Go.RowKit
set_option linter.unusedVariables false
def isB (b:Int):Bool:=decide (b=24∨b=25∨b=30∨b=48∨b=50∨b=60)
def cdB (b:Int):Bool:=decide (b=30∨b=60)
def okB (b:Int) (d:Bool):Bool:=isB b && (!d || cdB b)
def drp (b:Int) (d:Bool):Int:=if d then b / 15 else 0
def dm (m b:Int) (d:Bool):Int:=if m % 10=0 then 0 else drp b d
def dayN (b:Int) (d:Bool):Int:=144 * (600 * b - 9 * drp b d)
def stN (b:Int) (d:Bool):Nat→Int
 | 0=>0
 | m+1=>stN b d m+60 * b - dm m b d
theorem stN_eq (b:Int) (d:Bool) (m:Nat):stN b d m=60 * (b * m) - drp b d * ((m:Int) - ((m:Int)+9) / 10):=by
 induction m with
 | zero=>simp [stN]
 | succ m ih=>
  rw [stN,ih]
  unfold dm
  have e1:b * ((m+1:Nat):Int)=b * m+b:=by rw [Int.natCast_add,Int.mul_add];simp
  rw [e1]
  split
  ·rename_i h
   have e2:(((m+1:Nat):Int) - (((m+1:Nat):Int)+9) / 10)=((m:Int) - ((m:Int)+9) / 10):=by omega
   rw [e2];omega
  ·rename_i h
   have e2:(((m+1:Nat):Int) - (((m+1:Nat):Int)+9) / 10)=((m:Int) - ((m:Int)+9) / 10)+1:=by omega
   have e3:drp b d * (((m:Int) - ((m:Int)+9) / 10)+1)=drp b d * ((m:Int) - ((m:Int)+9) / 10)+drp b d:=by rw [Int.mul_add (drp b d),Int.mul_one]
   rw [e2,e3];omega
theorem okB_cases {b:Int} {d:Bool} (h:okB b d=true) :
  (b=24∧d=false)∨(b=25∧d=false)∨(b=30∧d=false)∨(b=48∧d=false)∨(b=50∧d=false)∨(b=60∧d=false)∨(b=30∧d=true)∨(b=60∧d=true):=by
 unfold okB isB cdB at h
 cases d <;> simp at h ⊢ <;> omega
theorem okB_bounds {b:Int} {d:Bool} (h:okB b d=true):24≤b∧b≤60∧0≤drp b d∧drp b d≤4:=by
 rcases okB_cases h with ⟨rfl,rfl⟩ | ⟨rfl,rfl⟩ | ⟨rfl,rfl⟩ | ⟨rfl,rfl⟩ | ⟨rfl,rfl⟩ | ⟨rfl,rfl⟩ | ⟨rfl,rfl⟩ | ⟨rfl,rfl⟩ <;> decide
theorem dm_bounds {m b:Int} {d:Bool} (h:okB b d=true):0≤dm m b d∧dm m b d≤4:=by
 have:=okB_bounds h
 unfold dm;split <;> omega
def rMin (r b:Int) (d:Bool):Int:=
 if r % (600 * b - 9 * drp b d)<60 * b then r / (600 * b - 9 * drp b d) * 10
 else r / (600 * b - 9 * drp b d) * 10+(1+(r % (600 * b - 9 * drp b d) - 60 * b) / (60 * b - drp b d))
def rFrm (r b:Int) (d:Bool):Int:=
 if r % (600 * b - 9 * drp b d)<60 * b then r % (600 * b - 9 * drp b d)
 else drp b d+(r % (600 * b - 9 * drp b d) - 60 * b) % (60 * b - drp b d)
def lm (n b:Int) (d:Bool):Int:=rMin (n % dayN b d) b d
def lf (n b:Int) (d:Bool):Int:=rFrm (n % dayN b d) b d
theorem dayN_pos {b:Int} {d:Bool} (h:okB b d=true):0<dayN b d∧dayN b d≤5184000:=by
 rcases okB_cases h with ⟨rfl,rfl⟩ | ⟨rfl,rfl⟩ | ⟨rfl,rfl⟩ | ⟨rfl,rfl⟩ | ⟨rfl,rfl⟩ | ⟨rfl,rfl⟩ | ⟨rfl,rfl⟩ | ⟨rfl,rfl⟩ <;> decide
theorem r_bounds {r b:Int} {d:Bool} (h:okB b d=true) (h0:0≤r) (h1:r<dayN b d):0≤rMin r b d∧rMin r b d<1440∧0≤rFrm r b d∧rFrm r b d<60 * b:=by
 unfold rMin rFrm dayN at *
 rcases okB_cases h with ⟨rfl,rfl⟩ | ⟨rfl,rfl⟩ | ⟨rfl,rfl⟩ | ⟨rfl,rfl⟩ | ⟨rfl,rfl⟩ | ⟨rfl,rfl⟩ | ⟨rfl,rfl⟩ | ⟨rfl,rfl⟩ <;> simp only [drp,if_true,Bool.false_eq_true,if_false] at * <;> split <;> omega
theorem r_unique {r b:Int} {d:Bool} {m:Nat} (h:okB b d=true) (h0:0≤r) (h1:stN b d m≤r) (h2:r<stN b d (m+1)):(m:Int)=rMin r b d∧r - stN b d m+dm m b d=rFrm r b d:=by
 rw [stN_eq] at h2
 rw [stN_eq] at h1 ⊢
 unfold rMin rFrm dm
 have hm:(m:Int)=10 * ((m:Int) / 10)+(m:Int) % 10:=by omega
 have hs:((m+1:Nat):Int)=m+1:=by omega
 rw [hs] at h2
 generalize (m:Int)=M at *
 have hj0:0≤M % 10:=by omega
 have hj1:M % 10<10:=by omega
 generalize M / 10=q at *
 generalize hj:M % 10=j at *
 rcases okB_cases h with ⟨rfl,rfl⟩ | ⟨rfl,rfl⟩ | ⟨rfl,rfl⟩ | ⟨rfl,rfl⟩ | ⟨rfl,rfl⟩ | ⟨rfl,rfl⟩ | ⟨rfl,rfl⟩ | ⟨rfl,rfl⟩ <;> simp only [drp,if_true,Bool.false_eq_true,if_false] at *
 case inr.inr.inr.inr.inr.inr.inl | inr.inr.inr.inr.inr.inr.inr=>
  rcases (show j=0∨j=1∨j=2∨j=3∨j=4∨j=5∨j=6∨j=7∨j=8∨j=9 by omega) with rfl | rfl | rfl | rfl | rfl | rfl | rfl | rfl | rfl | rfl <;> subst hm <;> split <;> (try split) <;> omega
 all_goals (split <;> (try split) <;> omega)
theorem stN_mono (b:Int) (d:Bool) (h:okB b d=true) (i k:Nat):stN b d i≤stN b d (i+k):=by
 have hb:=okB_bounds h
 induction k with
 | zero=>exact Int.le_refl _
 | succ k ih=>
  have:=dm_bounds (m:=((i+k:Nat):Int)) h
  rw [← Nat.add_assoc,stN]
  omega
theorem stN_day (b:Int) (d:Bool):stN b d 1440=dayN b d:=by
 rw [stN_eq];unfold dayN;omega
theorem l_bounds {n b:Int} {d:Bool} (h:okB b d=true):0≤lm n b d∧lm n b d<1440∧0≤lf n b d∧lf n b d<60 * b:=by
 have hd:=dayN_pos h
 exact r_bounds h (Int.emod_nonneg _ (by omega)) (Int.emod_lt_of_pos _ hd.1)
theorem tmod_pos_cases {n d:Int} (hd:0<d) (h:n<0):(n % d=0→n.tmod d=0)∧(0<n % d→n.tmod d=n % d - d):=by
 have e:n.tmod d=-((-n) % d):=by
  have:=Int.neg_tmod (-n) d
  rw [Int.neg_neg] at this
  rw [this,Int.tmod_eq_emod_of_nonneg (by omega)]
 have h1:=Int.mul_ediv_add_emod n d
 have h2:=Int.emod_nonneg n (show d≠0 by omega)
 have h3:=Int.emod_lt_of_pos n hd
 rw [e]
 generalize n / d=q at *
 generalize n % d=r at *
 subst h1
 refine⟨fun h0=>?_,fun h0=>?_⟩
 ·subst h0
  rw [Int.add_zero,← Int.mul_neg,Int.mul_emod_right];rfl
 ·rw [show -(d * q+r)=(d - r)+d * (-q - 1) by rw [Int.mul_sub,Int.mul_neg,Int.mul_one];omega,Int.add_mul_emod_self_left,Int.emod_eq_of_lt (by omega) (by omega)]
  omega
set_option linter.unusedSimpArgs false
def I64 (x:Int):Prop:=-9223372036854775808≤x∧x≤9223372036854775807
set_option maxHeartbeats 400000 in
theorem isBase_any (b:Int) (w:World) :
  Calls Tryz.prog 54 #[.int .i64 b] w fun e w'=>e=.returned (.bool (isB b))∧w=w':=by
 rcases (show b=24∨b=25∨b=30∨b=48∨b=50∨b=60∨(b≠24∧b≠25∧b≠30∧b≠48∧b≠50∧b≠60) by omega) with rfl | rfl | rfl | rfl | rfl | rfl | ⟨c1,c2,c3,c4,c5,c6⟩
 case inr.inr.inr.inr.inr.inr=>
  have hb:isB b=false:=decide_eq_false (by omega)
  rw [hb]
  have d1:(b == 24)=false:=by simpa using c1
  have d2:(b == 25)=false:=by simpa using c2
  have d3:(b == 30)=false:=by simpa using c3
  have d4:(b == 48)=false:=by simpa using c4
  have d5:(b == 50)=false:=by simpa using c5
  have d6:(b == 60)=false:=by simpa using c6
  clear c1 c2 c3 c4 c5 c6 hb
  go_enter Tryz.func54,Tryz.ntmps54
  go_wp2
  go_ret
  exact⟨ret_bool rfl,rfl⟩
 all_goals
  go_enter Tryz.func54,Tryz.ntmps54
  go_wp2
  go_ret
  exact⟨ret_bool (by decide),rfl⟩
set_option maxHeartbeats 400000 in
theorem canDrop_any (b:Int) (w:World) :
  Calls Tryz.prog 55 #[.int .i64 b] w fun e w'=>e=.returned (.bool (cdB b))∧w=w':=by
 rcases (show b=30∨b=60∨(b≠30∧b≠60) by omega) with rfl | rfl | ⟨c3,c6⟩
 case inr.inr=>
  have hb:cdB b=false:=decide_eq_false (by omega)
  rw [hb]
  have d3:(b == 30)=false:=by simpa using c3
  have d6:(b == 60)=false:=by simpa using c6
  clear c3 c6 hb
  go_enter Tryz.func55,Tryz.ntmps55
  go_wp2
  go_ret
  exact⟨ret_bool rfl,rfl⟩
 all_goals
  go_enter Tryz.func55,Tryz.ntmps55
  go_wp2
  go_ret
  exact⟨ret_bool (by decide),rfl⟩
set_option maxHeartbeats 400000 in
theorem dropped_any (b:Int) (d:Bool) (w:World) (h0:0≤b) (h1:b≤60) :
  Calls Tryz.prog 56 #[.int .i64 b,.bool d] w fun e w'=>e=.returned (.int .i64 (drp b d))∧w=w':=by
 cases d
 all_goals
  go_enter Tryz.func56,Tryz.ntmps56
  go_wp2
  go_ret
  exact⟨ret_int (by simp [drp]),rfl⟩
theorem okB_false {b:Int} {d:Bool} (h:okB b d=false):isB b=false∨(isB b=true∧d=true∧cdB b=false):=by
 unfold okB at h
 cases h1:isB b <;> cases d <;> cases h2:cdB b <;> simp_all
theorem okB_true {b:Int} {d:Bool} (h:okB b d=true):isB b=true∧(d=false∨(d=true∧cdB b=true)):=by
 unfold okB at h
 cases h1:isB b <;> cases d <;> cases h2:cdB b <;> simp_all
set_option maxHeartbeats 400000 in
theorem day_no (b:Int) (d:Bool) (w:World) (h:okB b d=false) :
  Calls Tryz.prog 28 #[.int .i64 b,.bool d] w fun e w'=>e=.returned (.tuple #[.int .i64 0,.int .i64 1])∧w=w':=by
 rcases okB_false h with h1 | ⟨h1,rfl,h2⟩
 all_goals
  clear h
  go_enter Tryz.func28,Tryz.ntmps28
  go_wp2_with (first
   | (go_at_call 54;refine (isBase_any _ _).mono ?_;rintro e w' ⟨rfl,rfl⟩)
   | (go_at_call 55;refine (canDrop_any _ _).mono ?_;rintro e w' ⟨rfl,rfl⟩))
  go_ret2
  exact⟨rfl,rfl⟩
set_option maxHeartbeats 400000 in
theorem day_yes (b:Int) (d:Bool) (w:World) (h:okB b d=true) :
  Calls Tryz.prog 28 #[.int .i64 b,.bool d] w fun e w'=>e=.returned (.tuple #[.int .i64 (dayN b d),.int .i64 0])∧w=w':=by
 obtain⟨b1,b2,b3,b4⟩:=okB_bounds h
 have HD:Hid (dayN b d=144 * (600 * b - 9 * drp b d)):=rfl
 obtain⟨h1,h2⟩:=okB_true h
 rcases h2 with rfl | ⟨rfl,h2⟩
 all_goals
  clear h
  go_enter Tryz.func28,Tryz.ntmps28
  go_wp2_with (first
   | (go_at_call 54;refine (isBase_any _ _).mono ?_;rintro e w' ⟨rfl,rfl⟩)
   | (go_at_call 55;refine (canDrop_any _ _).mono ?_;rintro e w' ⟨rfl,rfl⟩)
   | (go_at_call 56;refine (dropped_any _ _ _ (by omega) (by omega)).mono ?_;rintro e w' ⟨rfl,rfl⟩))
  go_ret2
  exact⟨by rw [HD.out];rfl,rfl⟩
set_option maxHeartbeats 400000 in
theorem modulo_any (n m:Int) (w:World) (hn:I64 n) (h0:0<m) (h1:m≤9223372036854775807) :
  Calls Tryz.prog 131 #[.int .i64 n,.int .i64 m] w fun e w'=>e=.returned (.int .i64 (n % m))∧w=w':=by
 obtain⟨n1,n2⟩:=hn
 have p0:0≤n % m:=Int.emod_nonneg _ (by omega)
 have p1:n % m<m:=Int.emod_lt_of_pos _ h0
 have ht:=tmod_pos_cases (n:=n) h0
 rcases (show 0≤n∨(n<0∧n % m=0)∨(n<0∧0<n % m) by omega) with c | ⟨c,c'⟩ | ⟨c,c'⟩
 ·clear ht
  go_enter Tryz.func131,Tryz.ntmps131
  go_wp2
  go_ret
  exact⟨ret_int rfl,rfl⟩
 ·have e:=(ht c).1 c'
  have HR:=Lib.hid c'
  clear ht c'
  go_enter Tryz.func131,Tryz.ntmps131
  go_wp2
  go_ret
  exact⟨ret_int (by rw [HR.out]),rfl⟩
 ·have e:=(ht c).2 c'
  clear ht
  go_enter Tryz.func131,Tryz.ntmps131
  go_wp2
  go_ret
  exact⟨ret_int (by omega),rfl⟩
set_option maxHeartbeats 1000000 in
theorem label_any (n b:Int) (d:Bool) (w:World) (hn:I64 n) (h:okB b d=true) :
  Calls Tryz.prog 111 #[.int .i64 n,.int .i64 b,.bool d] w fun e w'=>e=.returned (.tuple #[.agg #[.int .i64 (lm n b d / 60),.int .i64 (lm n b d % 60),.int .i64 (lf n b d / b),.int .i64 (lf n b d % b),.int .i64 b,.bool d],.int .i64 0])∧Gr w w':=by
 obtain⟨b1,b2,b3,b4⟩:=okB_bounds h
 obtain⟨hD1,hD2⟩:=dayN_pos h
 have lb:=l_bounds (n:=n) h
 have HDY:=Lib.hid (fun w=>day_yes b d w h)
 have HMO:=Lib.hid (fun w=>modulo_any n (dayN b d) w hn hD1 (by omega))
 have HDR:=Lib.hid (fun w=>dropped_any b d w (by omega) (by omega))
 have r0:0≤n % dayN b d:=Int.emod_nonneg _ (by omega)
 have r1:n % dayN b d<dayN b d:=Int.emod_lt_of_pos _ hD1
 have HM:Hid (lm n b d=if n % dayN b d % (600 * b - 9 * drp b d)<60 * b then n % dayN b d / (600 * b - 9 * drp b d) * 10
  else n % dayN b d / (600 * b - 9 * drp b d) * 10+(1+(n % dayN b d % (600 * b - 9 * drp b d) - 60 * b) / (60 * b - drp b d))):=rfl
 have HF:Hid (lf n b d=if n % dayN b d % (600 * b - 9 * drp b d)<60 * b then n % dayN b d % (600 * b - 9 * drp b d)
  else drp b d+(n % dayN b d % (600 * b - 9 * drp b d) - 60 * b) % (60 * b - drp b d)):=rfl
 generalize lm n b d=M at *
 generalize lf n b d=F at *
 generalize n % dayN b d=r at *
 generalize dayN b d=D at *
 generalize drp b d=k at *
 clear hD1 h
 have q0:0≤r / (600 * b - 9 * k):=Int.ediv_nonneg r0 (by omega)
 have q1:r / (600 * b - 9 * k)≤r:=Int.ediv_le_self _ r0
 have m0:0≤r % (600 * b - 9 * k):=Int.emod_nonneg _ (by omega)
 have m1:r % (600 * b - 9 * k)<600 * b - 9 * k:=Int.emod_lt_of_pos _ (by omega)
 obtain⟨l1,l2,l3,l4⟩:=lb
 by_cases hc:r % (600 * b - 9 * k)<60 * b
 ·have HM:=Lib.hid (HM.out.trans (if_pos hc))
  have HF:=Lib.hid (HF.out.trans (if_pos hc))
  have s0:0≤r % (600 * b - 9 * k) / b:=Int.ediv_nonneg m0 (by omega)
  have s1:r % (600 * b - 9 * k) / b≤r % (600 * b - 9 * k):=Int.ediv_le_self _ m0
  have s2:0≤r % (600 * b - 9 * k) % b:=Int.emod_nonneg _ (by omega)
  have s3:r % (600 * b - 9 * k) % b<b:=Int.emod_lt_of_pos _ (by omega)
  go_enter Tryz.func111,Tryz.ntmps111
  go_wp2_with (first
   | (go_at_call 28;refine (HDY.out _).mono ?_;rintro e w' ⟨rfl,rfl⟩)
   | (go_at_call 131;refine (HMO.out _).mono ?_;rintro e w' ⟨rfl,rfl⟩)
   | (go_at_call 56;refine (HDR.out _).mono ?_;rintro e w' ⟨rfl,rfl⟩))
  refine wp_region_gr (by kernel_rfl) (by kernel_rfl) (fun hq1 hq2=>?_)
  repeat (first | go_big_quiet_skip | (go_big_quiet_want;go_big_quiet_op;first | go_big_quiet_on | (apply Exists.intro;refine⟨fun _=>?_,?_⟩;(· (fail));go_big_quiet_on)))
  refine wpQuiet_nil ?_
  clear hq1 hq2
  rintro w1 ⟨⟨_,hg1⟩,rfl⟩
  obtain⟨hc1,hf1⟩:=hg1.cells
  have hz1:=hg1.size
  (try simp at hz1);(try have hl1_0_0:w.heap.size<w1.heap.size:=by omega);(try have hm1_0_0:w.heap.size≤w1.heap.size:=by omega);(try have hl1_0_1:w.heap.size+1<w1.heap.size:=by omega);(try have hl1_0_2:w.heap.size+2<w1.heap.size:=by omega)
  go_wp2
  refine wp_region_gr_tail 13 (by kernel_rfl) (by kernel_rfl) (fun hq1 hq2=>?_)
  simp only [List.take_succ_cons,List.take_zero,List.drop_succ_cons,List.drop_zero]
  repeat (first | go_big_quiet_skip | (go_big_quiet_want;go_big_quiet_op;first | go_big_quiet_on | (apply Exists.intro;refine⟨fun _=>?_,?_⟩;(· (fail));go_big_quiet_on)))
  refine wpQuiet_nil ?_
  clear hq1 hq2
  rintro w2 ⟨⟨_,hg2⟩,rfl⟩
  obtain⟨hc2,hf2⟩:=hg2.cells
  have hz2:=hg2.size
  (try simp at hz2);(try have hl2_0_0:w.heap.size<w2.heap.size:=by omega);(try have hm2_0_0:w.heap.size≤w2.heap.size:=by omega);(try have hl2_0_1:w.heap.size+1<w2.heap.size:=by omega);(try have hl2_0_2:w.heap.size+2<w2.heap.size:=by omega);(try have hl2_1_0:w1.heap.size<w2.heap.size:=by omega);(try have hm2_1_0:w1.heap.size≤w2.heap.size:=by omega);(try have hl2_1_1:w1.heap.size+1<w2.heap.size:=by omega);(try have hl2_1_2:w1.heap.size+2<w2.heap.size:=by omega)
  go_wp2
  simp [bodyPost,results,Tryz.results111,go_sem,hc2,hf2,hc1,hf1,hl1_0_0]
  refine⟨?_,(by repeat (first | refine Gr.setCell ?_ (by first | omega | (simp;done) | (simp;omega)) _ | refine Gr.alloc ?_ _ | refine Gr.drew ?_ | refine Gr.drewN ?_ _ | with_reducible assumption | with_reducible exact Gr.refl _ | refine Gr.trans ?_ (by with_reducible assumption)))⟩
  rw [HM.out,HF.out]
  exact⟨rfl,rfl,rfl,rfl⟩
 ·have HM:=Lib.hid (HM.out.trans (if_neg hc))
  have HF:=Lib.hid (HF.out.trans (if_neg hc))
  have f0:0≤r % (600 * b - 9 * k) - 60 * b:=by omega
  have u0:0≤(r % (600 * b - 9 * k) - 60 * b) / (60 * b - k):=Int.ediv_nonneg f0 (by omega)
  have u1:(r % (600 * b - 9 * k) - 60 * b) / (60 * b - k)≤r % (600 * b - 9 * k) - 60 * b:=Int.ediv_le_self _ f0
  have v0:0≤(r % (600 * b - 9 * k) - 60 * b) % (60 * b - k):=Int.emod_nonneg _ (by omega)
  have v1:(r % (600 * b - 9 * k) - 60 * b) % (60 * b - k)<60 * b - k:=Int.emod_lt_of_pos _ (by omega)
  have y0:0≤k+(r % (600 * b - 9 * k) - 60 * b) % (60 * b - k):=by omega
  have s0:0≤(k+(r % (600 * b - 9 * k) - 60 * b) % (60 * b - k)) / b:=Int.ediv_nonneg y0 (by omega)
  have s1:(k+(r % (600 * b - 9 * k) - 60 * b) % (60 * b - k)) / b≤k+(r % (600 * b - 9 * k) - 60 * b) % (60 * b - k):=Int.ediv_le_self _ y0
  have s2:0≤(k+(r % (600 * b - 9 * k) - 60 * b) % (60 * b - k)) % b:=Int.emod_nonneg _ (by omega)
  have s3:(k+(r % (600 * b - 9 * k) - 60 * b) % (60 * b - k)) % b<b:=Int.emod_lt_of_pos _ (by omega)
  go_enter Tryz.func111,Tryz.ntmps111
  go_wp2_with (first
   | (go_at_call 28;refine (HDY.out _).mono ?_;rintro e w' ⟨rfl,rfl⟩)
   | (go_at_call 131;refine (HMO.out _).mono ?_;rintro e w' ⟨rfl,rfl⟩)
   | (go_at_call 56;refine (HDR.out _).mono ?_;rintro e w' ⟨rfl,rfl⟩))
  refine wp_region_gr (by kernel_rfl) (by kernel_rfl) (fun hq1 hq2=>?_)
  repeat (first | go_big_quiet_skip | (go_big_quiet_want;go_big_quiet_op;first | go_big_quiet_on | (apply Exists.intro;refine⟨fun _=>?_,?_⟩;(· (fail));go_big_quiet_on)))
  refine wpQuiet_nil ?_
  clear hq1 hq2
  rintro w1 ⟨⟨_,hg1⟩,rfl⟩
  obtain⟨hc1,hf1⟩:=hg1.cells
  have hz1:=hg1.size
  (try simp at hz1);(try have hl1_0_0:w.heap.size<w1.heap.size:=by omega);(try have hm1_0_0:w.heap.size≤w1.heap.size:=by omega);(try have hl1_0_1:w.heap.size+1<w1.heap.size:=by omega);(try have hl1_0_2:w.heap.size+2<w1.heap.size:=by omega)
  go_wp2
  refine wp_region_gr_tail 13 (by kernel_rfl) (by kernel_rfl) (fun hq1 hq2=>?_)
  simp only [List.take_succ_cons,List.take_zero,List.drop_succ_cons,List.drop_zero]
  repeat (first | go_big_quiet_skip | (go_big_quiet_want;go_big_quiet_op;first | go_big_quiet_on | (apply Exists.intro;refine⟨fun _=>?_,?_⟩;(· (fail));go_big_quiet_on)))
  refine wpQuiet_nil ?_
  clear hq1 hq2
  rintro w2 ⟨⟨_,hg2⟩,rfl⟩
  obtain⟨hc2,hf2⟩:=hg2.cells
  have hz2:=hg2.size
  (try simp at hz2);(try have hl2_0_0:w.heap.size<w2.heap.size:=by omega);(try have hm2_0_0:w.heap.size≤w2.heap.size:=by omega);(try have hl2_0_1:w.heap.size+1<w2.heap.size:=by omega);(try have hl2_0_2:w.heap.size+2<w2.heap.size:=by omega);(try have hl2_1_0:w1.heap.size<w2.heap.size:=by omega);(try have hm2_1_0:w1.heap.size≤w2.heap.size:=by omega);(try have hl2_1_1:w1.heap.size+1<w2.heap.size:=by omega);(try have hl2_1_2:w1.heap.size+2<w2.heap.size:=by omega)
  go_wp2
  simp [bodyPost,results,Tryz.results111,go_sem,hc2,hf2,hc1,hf1,hl1_0_0]
  refine⟨?_,(by repeat (first | refine Gr.setCell ?_ (by first | omega | (simp;done) | (simp;omega)) _ | refine Gr.alloc ?_ _ | refine Gr.drew ?_ | refine Gr.drewN ?_ _ | with_reducible assumption | with_reducible exact Gr.refl _ | refine Gr.trans ?_ (by with_reducible assumption)))⟩
  rw [HM.out,HF.out]
  exact⟨rfl,rfl,rfl,rfl⟩
end Go.Proofs.YtnginfangeikpaaGreatDoor.C19
