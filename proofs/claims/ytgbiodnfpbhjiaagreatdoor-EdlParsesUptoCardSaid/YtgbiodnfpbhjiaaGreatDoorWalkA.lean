/-
  Plain arithmetic: greatest common divisors and magnitudes of integers. No program in sight.
  Conditions: none.
-/
import Derived.Below
import Derived.Lib.Hide
import Derived.Test.YtgbiodnfpbhjiaaGreatDoorChecked
import Derived.WalkKit
import Derived.WalkSpells
import Derived.WalkLawsBesides
import Derived.Test.YtgbiodnfpbhjiaaGreatDoorKit
import Derived.Test.YtgbiodnfpbhjiaaGreatDoorShelf
import Derived.Shelf.Spec.BitsCarry
namespace Go.Proofs.YtgbiodnfpbhjiaaGreatDoor
open Go.RowKit
def mg (x:Int):Int:=if x<0 then -x else x
theorem mg_abs (x:Int):mg x=(x.natAbs:Int):=by unfold mg;split <;> omega
theorem mg_nonneg (x:Int):0≤mg x:=by unfold mg;split <;> omega
theorem mg_neg {x:Int} (h:x<0):mg x=-x:=by unfold mg;rw [if_pos h]
theorem mg_pos {x:Int} (h:0≤x):mg x=x:=by unfold mg;rw [if_neg (by omega)]
theorem mg_lt (x:Int) (h1:-9223372036854775808≤x) (h2:x≤9223372036854775807):mg x<18446744073709551616:=by unfold mg;split <;> omega
def gc (x y:Int):Int:=(Int.gcd x y:Int)
theorem gc_zero (x:Int) (h:0≤x):gc x 0=x:=by unfold gc;simp;omega
theorem gc_step (x y:Int) (hx:0≤x) (hy:0≤y):gc y (x % y)=gc x y:=by
 obtain⟨x,rfl⟩:=Int.eq_ofNat_of_zero_le hx
 obtain⟨y,rfl⟩:=Int.eq_ofNat_of_zero_le hy
 unfold gc
 rw [← Int.natCast_emod]
 simp only [Int.gcd_natCast_natCast]
 rw [Nat.gcd_comm x y,Nat.gcd_rec y x,Nat.gcd_comm]
theorem gc_pos_right (x y:Int) (h:0<y):0<gc x y:=by
 unfold gc
 have:=Int.gcd_pos_of_ne_zero_right x (show y≠0 by omega)
 omega
theorem gc_pos_left (x y:Int) (h:0<x):0<gc x y:=by
 unfold gc
 have:=Int.gcd_pos_of_ne_zero_left y (show x≠0 by omega)
 omega
theorem gc_mg (x y:Int):gc (mg x) y=gc x y:=by unfold gc;rw [mg_abs];simp [Int.gcd]
set_option maxHeartbeats 400000 in
theorem magnitude_any (x:Int) (w:World) (h1:-9223372036854775808≤x) (h2:x≤9223372036854775807) :
  Calls Tryz.prog 197 #[.int .i64 x] w fun e w'=>e=.returned (.int .u64 (mg x))∧w=w':=by
 by_cases h:x<0
 ·go_enter Tryz.func197,Tryz.ntmps197
  go_wp2
  go_ret
  exact⟨ret_int (by rw [mg_neg h];first | omega | (simp only [IntKind.wrap_u64];omega)),rfl⟩
 ·go_enter Tryz.func197,Tryz.ntmps197
  go_wp2
  go_ret
  exact⟨ret_int (by rw [mg_pos (by omega)]),rfl⟩
set_option maxHeartbeats 400000 in
theorem gcd_any (x y:Int) (w:World) (hx:0≤x) (hx2:x<18446744073709551616) (hy:0≤y) (hy2:y<18446744073709551616) :
  Calls Tryz.prog 198 #[.int .u64 x,.int .u64 y] w fun e w'=>e=.returned (.int .u64 (gc x y))∧∃ n,w'=w.drewN n:=by
 go_enter Tryz.func198,Tryz.ntmps198
 go_wp2
 go_loopw [0,1] (fun a b wr=>∃ p q:Int,0≤p∧p<18446744073709551616∧0≤q∧q<18446744073709551616∧a=.int .u64 p∧b=.int .u64 q∧Hid (gc p q=gc x y)∧∃ n,wr=w.drewN n) (fun _ b _=>(intOf b).toNat)
 case atStart=>exact⟨x,y,hx,hx2,hy,hy2,rfl,rfl,rfl,0,rfl⟩
 case round=>
  obtain⟨p,q,hp,hp2,hq,hq2,rfl,rfl,hg,n,rfl⟩:=hrel
  by_cases h0:q=0
  ·subst h0
   go_wp2
   go_ret
   exact⟨ret_int (by rw [← hg.out,gc_zero _ hp]),n,rfl⟩
  ·have hb:(q != 0)=true:=by simpa using h0
   have hm1:0≤p % q:=Int.emod_nonneg _ h0
   have hm2:p % q<q:=Int.emod_lt_of_pos _ (by omega)
   go_wp2
   go_region
   go_wp2
   go_roundw
   case rel=>exact⟨q,p % q,hq,hq2,hm1,by omega,rfl,rfl,(gc_step p q hp hq).trans hg.out,n+1,rfl⟩
   case measure=>simp [intOf];omega
def wN (v:Int):Bool:=decide (v<0)
def wH (v:Int):Int:=mg v / 18446744073709551616
def wL (v:Int):Int:=mg v % 18446744073709551616
theorem wH_nonneg (v:Int):0≤wH v:=Int.ediv_nonneg (mg_nonneg v) (by omega)
theorem wL_nonneg (v:Int):0≤wL v:=Int.emod_nonneg _ (by omega)
theorem wL_lt (v:Int):wL v<18446744073709551616:=Int.emod_lt_of_pos _ (by omega)
def Fit (v:Int):Prop:=mg v<340282366920938463463374607431768211456
theorem wH_lt {v:Int} (h:Fit v):wH v<18446744073709551616:=by unfold Fit at h;unfold wH;omega
theorem wHL (v:Int):wH v * 18446744073709551616+wL v=mg v:=by unfold wH wL;omega
set_option linter.unusedSimpArgs false
set_option linter.unusedVariables false
end Go.Proofs.YtgbiodnfpbhjiaaGreatDoor
