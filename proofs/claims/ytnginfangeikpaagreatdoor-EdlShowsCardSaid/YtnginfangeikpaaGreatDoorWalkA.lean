/-
  DERIVED: THE SHELF's CONTRACTS AT THIS DUMP, IN PLAIN WORDS (tools/lay-plain.mjs out of 'TryzShelf.lean', which tools/lay-shelf.mjs wrote): THE SAME DECLARATIONS UNDER THE SAME NAMES: 'import', 'namespace', 'open', 'def', 'theorem' AND NOTHING ELSE: no command of the shelf's: FOR A HAND-IN. Each laying: the table of numbers ('.._ren') and one theorem, a field a fact of the dump's own or the kernel's comparison; each contract: ONE APPLICATION.
-/
import Derived.Shelf.Strings.Builder1
import Derived.Shelf.Small.Bits
import Derived.Shelf.Strings.BuilderF
import Derived.Shelf.Strings.BuilderK
import Derived.Shelf.Strconv.Itoa0
import Derived.Shelf.Strconv.Itoa1
import Derived.Shelf.LaysM
import Derived.Shelf.Strconv.Itoa2
import Derived.Shelf.Strconv.Itoa3
import Derived.Shelf.Strconv.Itoa4
import Derived.Shelf.Bits.Mul64
import Derived.Test.YtnginfangeikpaaGreatDoorProg
import Derived.Below
import Derived.Lib.Hide
import Derived.Test.YtnginfangeikpaaGreatDoorChecked
import Derived.WalkKit
import Derived.WalkSpells
import Derived.WalkLawsBesides
import Derived.Test.YtnginfangeikpaaGreatDoorKit
import Derived.Shelf.Spec.BitsCarry
namespace Go.Proofs
open Go.Shelf
def Tryz.lays134_ren:Go.Shelf.Ren:=⟨fun | 134=>165 | 129=>160 | n=>n,fun | 53=>67 | 3=>3 | 4=>4 | 46=>145 | 5=>5 | 9=>9 | n=>n,fun | n=>n⟩
theorem Tryz.lays134:Go.Proofs.Lays.n134 Tryz.prog Tryz.lays134_ren:={
 mixed:=by kernel_rfl
 f129:=Tryz.func160.trans (congrArg some (by kernel_rfl))
 f134:=Tryz.func165.trans (congrArg some (by kernel_rfl))
 t3:=Tryz.underlying3
 a3:=Tryz.isAgg3
 z3:=Tryz.sizeOf3
 v3:=Tryz.zeroValue3
 t4:=Tryz.underlying4
 a4:=Tryz.isAgg4
 z4:=Tryz.sizeOf4
 v4:=Tryz.zeroValue4
 t5:=Tryz.underlying5
 a5:=Tryz.isAgg5
 z5:=Tryz.sizeOf5
 v5:=Tryz.zeroValue5
 t9:=Tryz.underlying9
 a9:=Tryz.isAgg9
 z9:=Tryz.sizeOf9
 v9:=Tryz.zeroValue9
 t46:=Tryz.underlying145
 a46:=Tryz.isAgg145
 z46:=Tryz.sizeOf145
 v46:=Tryz.zeroValue145
 t53:=Tryz.underlying67
 a53:=Tryz.isAgg67
 z53:=Tryz.sizeOf67
 v53:=Tryz.zeroValue67 }
theorem Tryz.bits_LeadingZeros64 (x:Int) (w:World) (h0:0≤x) (h1:x≤18446744073709551615) :
  Calls Tryz.prog 165 #[.int .u64 x] w fun e w'=>e=.returned (.int .i64 (64 - (Lib.bitLen x.toNat:Int)))∧w'=w:=Any.bits_LeadingZeros64 Tryz.lays134 x w h0 h1
def Tryz.laysM246_ren:Go.Shelf.Ren:=⟨fun | 246=>126 | 283=>142 | 284=>143 | 285=>144 | 286=>145 | 129=>160 | 317=>159 | 318=>161 | 319=>162 | 320=>163 | 337=>176 | 338=>177 | n=>n,fun | 2=>2 | 3=>3 | 9=>9 | 4=>4 | 171=>219 | 0=>0 | 53=>67 | 37=>114 | 5=>5 | 173=>222 | 212=>236 | 51=>224 | 20=>20 | 213=>237 | 46=>145 | 232=>254 | 233=>64 | n=>n,fun | 17=>0 | 18=>4 | 19=>5 | n=>n⟩
def Tryz.laysM243_ren:Go.Shelf.Ren:=⟨fun | 243=>113 | 246=>126 | 283=>142 | 284=>143 | 285=>144 | 286=>145 | 129=>160 | 317=>159 | 318=>161 | 319=>162 | 320=>163 | 337=>176 | 338=>177 | n=>n,fun | 3=>3 | 9=>9 | 2=>2 | 4=>4 | 171=>219 | 0=>0 | 53=>67 | 37=>114 | 5=>5 | 173=>222 | 212=>236 | 51=>224 | 20=>20 | 213=>237 | 46=>145 | 232=>254 | 233=>64 | n=>n,fun | 17=>0 | 18=>4 | 19=>5 | n=>n⟩
def Tryz.laysM171_ren:Go.Shelf.Ren:=⟨fun | 171=>81 | 243=>113 | 246=>126 | 283=>142 | 284=>143 | 285=>144 | 286=>145 | 129=>160 | 317=>159 | 318=>161 | 319=>162 | 320=>163 | 337=>176 | 338=>177 | n=>n,fun | 3=>3 | 9=>9 | 2=>2 | 4=>4 | 171=>219 | 0=>0 | 53=>67 | 37=>114 | 5=>5 | 173=>222 | 212=>236 | 51=>224 | 20=>20 | 213=>237 | 46=>145 | 232=>254 | 233=>64 | n=>n,fun | 17=>0 | 18=>4 | 19=>5 | n=>n⟩
theorem Tryz.laysM171:Go.Proofs.LaysM.n171 Tryz.prog Tryz.laysM171_ren:={
 mixed:=by kernel_rfl
 f129:=Tryz.func160.trans (congrArg some (by kernel_rfl))
 f171:=Tryz.func81.trans (congrArg some (by kernel_rfl))
 f243:=Tryz.func113.trans (congrArg some (by kernel_rfl))
 f246:=Tryz.func126.trans (congrArg some (by kernel_rfl))
 f283:=Tryz.func142.trans (congrArg some (by kernel_rfl))
 f284:=Tryz.func143.trans (congrArg some (by kernel_rfl))
 f285:=Tryz.func144.trans (congrArg some (by kernel_rfl))
 f286:=Tryz.func145.trans (congrArg some (by kernel_rfl))
 f317:=Tryz.func159.trans (congrArg some (by kernel_rfl))
 f318:=Tryz.func161.trans (congrArg some (by kernel_rfl))
 f319:=Tryz.func162.trans (congrArg some (by kernel_rfl))
 f320:=Tryz.func163.trans (congrArg some (by kernel_rfl))
 f337:=Tryz.func176.trans (congrArg some (by kernel_rfl))
 f338:=Tryz.func177.trans (congrArg some (by kernel_rfl))
 t0:=Tryz.underlying0
 a0:=Tryz.isAgg0
 z0:=Tryz.sizeOf0
 v0:=Tryz.zeroValue0
 t2:=Tryz.underlying2
 a2:=Tryz.isAgg2
 z2:=Tryz.sizeOf2
 v2:=Tryz.zeroValue2
 t3:=Tryz.underlying3
 a3:=Tryz.isAgg3
 z3:=Tryz.sizeOf3
 v3:=Tryz.zeroValue3
 t4:=Tryz.underlying4
 a4:=Tryz.isAgg4
 z4:=Tryz.sizeOf4
 v4:=Tryz.zeroValue4
 t5:=Tryz.underlying5
 a5:=Tryz.isAgg5
 z5:=Tryz.sizeOf5
 v5:=Tryz.zeroValue5
 t9:=Tryz.underlying9
 a9:=Tryz.isAgg9
 z9:=Tryz.sizeOf9
 v9:=Tryz.zeroValue9
 t20:=Tryz.underlying20
 a20:=Tryz.isAgg20
 z20:=Tryz.sizeOf20
 v20:=Tryz.zeroValue20
 t37:=Tryz.underlying114
 a37:=Tryz.isAgg114
 z37:=Tryz.sizeOf114
 v37:=Tryz.zeroValue114
 t46:=Tryz.underlying145
 a46:=Tryz.isAgg145
 z46:=Tryz.sizeOf145
 v46:=Tryz.zeroValue145
 t51:=Tryz.underlying224
 a51:=Tryz.isAgg224
 z51:=Tryz.sizeOf224
 v51:=Tryz.zeroValue224
 t53:=Tryz.underlying67
 a53:=Tryz.isAgg67
 z53:=Tryz.sizeOf67
 v53:=Tryz.zeroValue67
 t171:=Tryz.underlying219
 a171:=Tryz.isAgg219
 z171:=Tryz.sizeOf219
 v171:=Tryz.zeroValue219
 t173:=Tryz.underlying222
 a173:=Tryz.isAgg222
 z173:=Tryz.sizeOf222
 v173:=Tryz.zeroValue222
 t212:=Tryz.underlying236
 a212:=Tryz.isAgg236
 z212:=Tryz.sizeOf236
 v212:=Tryz.zeroValue236
 t213:=Tryz.underlying237
 a213:=Tryz.isAgg237
 z213:=Tryz.sizeOf237
 t232:=Tryz.underlying254
 a232:=Tryz.isAgg254
 z232:=Tryz.sizeOf254
 v232:=Tryz.zeroValue254
 t233:=Tryz.underlying64
 a233:=Tryz.isAgg64
 z233:=Tryz.sizeOf64
 v233:=Tryz.zeroValue64
 g17:=by kernel_rfl
 g18:=by kernel_rfl
 g19:=by kernel_rfl
 i0:=by kernel_rfl
 i2:=by kernel_rfl
 i3:=by kernel_rfl
 i4:=by kernel_rfl
 i5:=by kernel_rfl
 i9:=by kernel_rfl
 i20:=by kernel_rfl
 i37:=by kernel_rfl
 i46:=by kernel_rfl
 i51:=by kernel_rfl
 i53:=by kernel_rfl
 i171:=by kernel_rfl
 i173:=by kernel_rfl
 i212:=by kernel_rfl
 i232:=by kernel_rfl
 i233:=by kernel_rfl
 m17:=by kernel_rfl
 m18:=by kernel_rfl
 m19:=by kernel_rfl }
open Go.RowKit Go.Sort Go.Lib in
theorem Tryz.strconv_Itoa (n:Int) (h0:-9223372036854775808≤n) (h1:n≤9223372036854775807) (w:World) (htab:Lib.TabIs Tryz.prog w "internal/strconv.uint64pow10" .u64 Lib.pow10Tab) :
  Calls Tryz.prog 81 #[.int .i64 n] w fun e w'=>e=.returned (.string ⟨(Lib.itoa n).toArray⟩)∧∃ k os,w'=grow (w.drewN k) os:=Any.strconv_Itoa Tryz.laysM171 n h0 h1 w htab
def Tryz.laysM173_ren:Go.Shelf.Ren:=⟨fun | 173=>109 | 246=>126 | 283=>142 | 284=>143 | 285=>144 | 286=>145 | 129=>160 | 317=>159 | 318=>161 | 319=>162 | 320=>163 | 337=>176 | 338=>177 | n=>n,fun | 2=>2 | 3=>3 | 9=>9 | 4=>4 | 171=>219 | 0=>0 | 53=>67 | 37=>114 | 5=>5 | 173=>222 | 212=>236 | 51=>224 | 20=>20 | 213=>237 | 46=>145 | 232=>254 | 233=>64 | n=>n,fun | 17=>0 | 18=>4 | 19=>5 | n=>n⟩
theorem Tryz.laysM173:Go.Proofs.LaysM.n173 Tryz.prog Tryz.laysM173_ren:={
 mixed:=by kernel_rfl
 f129:=Tryz.func160.trans (congrArg some (by kernel_rfl))
 f173:=Tryz.func109.trans (congrArg some (by kernel_rfl))
 f246:=Tryz.func126.trans (congrArg some (by kernel_rfl))
 f283:=Tryz.func142.trans (congrArg some (by kernel_rfl))
 f284:=Tryz.func143.trans (congrArg some (by kernel_rfl))
 f285:=Tryz.func144.trans (congrArg some (by kernel_rfl))
 f286:=Tryz.func145.trans (congrArg some (by kernel_rfl))
 f317:=Tryz.func159.trans (congrArg some (by kernel_rfl))
 f318:=Tryz.func161.trans (congrArg some (by kernel_rfl))
 f319:=Tryz.func162.trans (congrArg some (by kernel_rfl))
 f320:=Tryz.func163.trans (congrArg some (by kernel_rfl))
 f337:=Tryz.func176.trans (congrArg some (by kernel_rfl))
 f338:=Tryz.func177.trans (congrArg some (by kernel_rfl))
 t0:=Tryz.underlying0
 a0:=Tryz.isAgg0
 z0:=Tryz.sizeOf0
 v0:=Tryz.zeroValue0
 t2:=Tryz.underlying2
 a2:=Tryz.isAgg2
 z2:=Tryz.sizeOf2
 v2:=Tryz.zeroValue2
 t3:=Tryz.underlying3
 a3:=Tryz.isAgg3
 z3:=Tryz.sizeOf3
 v3:=Tryz.zeroValue3
 t4:=Tryz.underlying4
 a4:=Tryz.isAgg4
 z4:=Tryz.sizeOf4
 v4:=Tryz.zeroValue4
 t5:=Tryz.underlying5
 a5:=Tryz.isAgg5
 z5:=Tryz.sizeOf5
 v5:=Tryz.zeroValue5
 t9:=Tryz.underlying9
 a9:=Tryz.isAgg9
 z9:=Tryz.sizeOf9
 v9:=Tryz.zeroValue9
 t20:=Tryz.underlying20
 a20:=Tryz.isAgg20
 z20:=Tryz.sizeOf20
 v20:=Tryz.zeroValue20
 t37:=Tryz.underlying114
 a37:=Tryz.isAgg114
 z37:=Tryz.sizeOf114
 v37:=Tryz.zeroValue114
 t46:=Tryz.underlying145
 a46:=Tryz.isAgg145
 z46:=Tryz.sizeOf145
 v46:=Tryz.zeroValue145
 t51:=Tryz.underlying224
 a51:=Tryz.isAgg224
 z51:=Tryz.sizeOf224
 v51:=Tryz.zeroValue224
 t53:=Tryz.underlying67
 a53:=Tryz.isAgg67
 z53:=Tryz.sizeOf67
 v53:=Tryz.zeroValue67
 t171:=Tryz.underlying219
 a171:=Tryz.isAgg219
 z171:=Tryz.sizeOf219
 v171:=Tryz.zeroValue219
 t173:=Tryz.underlying222
 a173:=Tryz.isAgg222
 z173:=Tryz.sizeOf222
 v173:=Tryz.zeroValue222
 t212:=Tryz.underlying236
 a212:=Tryz.isAgg236
 z212:=Tryz.sizeOf236
 v212:=Tryz.zeroValue236
 t213:=Tryz.underlying237
 a213:=Tryz.isAgg237
 z213:=Tryz.sizeOf237
 t232:=Tryz.underlying254
 a232:=Tryz.isAgg254
 z232:=Tryz.sizeOf254
 v232:=Tryz.zeroValue254
 t233:=Tryz.underlying64
 a233:=Tryz.isAgg64
 z233:=Tryz.sizeOf64
 v233:=Tryz.zeroValue64
 g17:=by kernel_rfl
 g18:=by kernel_rfl
 g19:=by kernel_rfl
 i0:=by kernel_rfl
 i2:=by kernel_rfl
 i3:=by kernel_rfl
 i4:=by kernel_rfl
 i5:=by kernel_rfl
 i9:=by kernel_rfl
 i20:=by kernel_rfl
 i37:=by kernel_rfl
 i46:=by kernel_rfl
 i51:=by kernel_rfl
 i53:=by kernel_rfl
 i171:=by kernel_rfl
 i173:=by kernel_rfl
 i212:=by kernel_rfl
 i232:=by kernel_rfl
 i233:=by kernel_rfl
 m17:=by kernel_rfl
 m18:=by kernel_rfl
 m19:=by kernel_rfl }
open Go.RowKit Go.Sort Go.Lib in
theorem Tryz.strconv_FormatInt_10 (n:Int) (h0:-9223372036854775808≤n) (h1:n≤9223372036854775807) (w:World) (htab:Lib.TabIs Tryz.prog w "internal/strconv.uint64pow10" .u64 Lib.pow10Tab) :
  Calls Tryz.prog 109 #[.int .i64 n,.int .i64 10] w fun e w'=>e=.returned (.string ⟨(Lib.itoa n).toArray⟩)∧∃ k os,w'=grow (w.drewN k) os:=Any.strconv_FormatInt_10 Tryz.laysM173 n h0 h1 w htab
def Tryz.lays264_ren:Go.Shelf.Ren:=⟨fun | 264=>147 | n=>n,fun | 53=>67 | 46=>145 | n=>n,fun | n=>n⟩
theorem Tryz.lays264:Go.Proofs.Lays.n264 Tryz.prog Tryz.lays264_ren:={
 mixed:=by kernel_rfl
 f264:=Tryz.func147.trans (congrArg some (by kernel_rfl))
 t46:=Tryz.underlying145
 a46:=Tryz.isAgg145
 z46:=Tryz.sizeOf145
 v46:=Tryz.zeroValue145
 t53:=Tryz.underlying67
 a53:=Tryz.isAgg67
 z53:=Tryz.sizeOf67
 v53:=Tryz.zeroValue67 }
open Go.RowKit Go.Lib in
theorem Tryz.bits_Mul64 (x y:Nat) (hx:x<18446744073709551616) (hy:y<18446744073709551616) (w:World) :
  Calls Tryz.prog 147 #[.int .u64 x,.int .u64 y] w fun e w'=>e=.returned (.tuple #[.int .u64 ((x * y / 18446744073709551616:Nat):Int),.int .u64 ((x * y % 18446744073709551616:Nat):Int)])∧w'=w:=Any.bits_Mul64 Tryz.lays264 x y hx hy w
def Tryz.lays212_ren:Go.Shelf.Ren:=⟨fun | 212=>127 | 263=>146 | 264=>147 | n=>n,fun | 46=>145 | 51=>224 | 146=>225 | 53=>67 | 148=>227 | n=>n,fun | n=>n⟩
theorem Tryz.lays212:Go.Proofs.Lays.n212 Tryz.prog Tryz.lays212_ren:={
 mixed:=by kernel_rfl
 f212:=Tryz.func127.trans (congrArg some (by kernel_rfl))
 f263:=Tryz.func146.trans (congrArg some (by kernel_rfl))
 f264:=Tryz.func147.trans (congrArg some (by kernel_rfl))
 t46:=Tryz.underlying145
 a46:=Tryz.isAgg145
 z46:=Tryz.sizeOf145
 v46:=Tryz.zeroValue145
 t51:=Tryz.underlying224
 a51:=Tryz.isAgg224
 z51:=Tryz.sizeOf224
 v51:=Tryz.zeroValue224
 t53:=Tryz.underlying67
 a53:=Tryz.isAgg67
 z53:=Tryz.sizeOf67
 v53:=Tryz.zeroValue67
 t146:=Tryz.underlying225
 a146:=Tryz.isAgg225
 z146:=Tryz.sizeOf225
 v146:=Tryz.zeroValue225
 t148:=Tryz.underlying227
 a148:=Tryz.isAgg227
 z148:=Tryz.sizeOf227
 v148:=Tryz.zeroValue227 }
open Go.RowKit Go.Lib in
theorem Tryz.bits_Mul (x y:Nat) (hx:x<18446744073709551616) (hy:y<18446744073709551616) (w:World) :
  Calls Tryz.prog 127 #[.int .u64 x,.int .u64 y] w fun e w'=>e=.returned (.tuple #[.int .u64 ((x * y / 18446744073709551616:Nat):Int),.int .u64 ((x * y % 18446744073709551616:Nat):Int)])∧w'=w:=Any.bits_Mul Tryz.lays212 x y hx hy w
end Go.Proofs

namespace Go.Proofs.YtnginfangeikpaaGreatDoor
open Go.RowKit
def mg (x:Int):Int:=if x<0 then -x else x
theorem mg_abs (x:Int):mg x=(x.natAbs:Int):=by unfold mg;split <;> omega
theorem mg_nonneg (x:Int):0≤mg x:=by unfold mg;split <;> omega
theorem mg_neg {x:Int} (h:x<0):mg x=-x:=by unfold mg;rw [if_pos h]
theorem mg_pos {x:Int} (h:0≤x):mg x=x:=by unfold mg;rw [if_neg (by omega)]
theorem mg_lt (x:Int) (h1:-9223372036854775808≤x) (h2:x≤9223372036854775807):mg x<18446744073709551616:=by unfold mg;split <;> omega
theorem mg_le (x:Int) (h1:-9223372036854775808≤x) (h2:x≤9223372036854775807):mg x≤9223372036854775808:=by unfold mg;split <;> omega
def gc (x y:Int):Int:=(Int.gcd x y:Int)
theorem gc_zero (x:Int) (h:0≤x):gc x 0=x:=by unfold gc;simp;omega
theorem gc_step (x y:Int) (hx:0≤x) (hy:0≤y):gc y (x % y)=gc x y:=by
 obtain⟨x,rfl⟩:=Int.eq_ofNat_of_zero_le hx
 obtain⟨y,rfl⟩:=Int.eq_ofNat_of_zero_le hy
 unfold gc
 rw [← Int.natCast_emod]
 simp only [Int.gcd_natCast_natCast]
 rw [Nat.gcd_comm x y,Nat.gcd_rec y x,Nat.gcd_comm]
theorem gc_nonneg (x y:Int):0≤gc x y:=by unfold gc;omega
theorem gc_le_left (x y:Int) (h:0<x):gc x y≤x:=by unfold gc;exact Int.gcd_le_left y h
theorem gc_le_right (x y:Int) (h:0<y):gc x y≤y:=by unfold gc;exact Int.gcd_le_right x h
theorem gc_pos_right (x y:Int) (h:0<y):0<gc x y:=by
 unfold gc
 have:=Int.gcd_pos_of_ne_zero_right x (show y≠0 by omega)
 omega
theorem gc_pos_left (x y:Int) (h:0<x):0<gc x y:=by
 unfold gc
 have:=Int.gcd_pos_of_ne_zero_left y (show x≠0 by omega)
 omega
theorem gc_mg (x y:Int):gc (mg x) y=gc x y:=by unfold gc;rw [mg_abs];simp [Int.gcd]
theorem gc_mg_right (x y:Int):gc x (mg y)=gc x y:=by unfold gc;rw [mg_abs];simp [Int.gcd]
theorem gc_dvd_left (x y:Int):gc x y ∣ x:=Int.gcd_dvd_left x y
theorem gc_dvd_right (x y:Int):gc x y ∣ y:=Int.gcd_dvd_right x y
set_option maxHeartbeats 400000 in
theorem magnitude_any (x:Int) (w:World) (h1:-9223372036854775808≤x) (h2:x≤9223372036854775807) :
  Calls Tryz.prog 104 #[.int .i64 x] w fun e w'=>e=.returned (.int .u64 (mg x))∧w=w':=by
 by_cases h:x<0
 ·go_enter Tryz.func104,Tryz.ntmps104
  go_wp2
  go_ret
  exact⟨ret_int (by rw [mg_neg h];first | omega | (simp only [IntKind.wrap_u64];omega)),rfl⟩
 ·go_enter Tryz.func104,Tryz.ntmps104
  go_wp2
  go_ret
  exact⟨ret_int (by rw [mg_pos (by omega)]),rfl⟩
set_option maxHeartbeats 400000 in
theorem gcd_any (x y:Int) (w:World) (hx:0≤x) (hx2:x<18446744073709551616) (hy:0≤y) (hy2:y<18446744073709551616) :
  Calls Tryz.prog 105 #[.int .u64 x,.int .u64 y] w fun e w'=>e=.returned (.int .u64 (gc x y))∧∃ n,w'=w.drewN n:=by
 go_enter Tryz.func105,Tryz.ntmps105
 go_wp2
 go_loopw [0,1] (fun a b wr=>∃ p q:Int,0≤p∧p<18446744073709551616∧0≤q∧q<18446744073709551616∧a=.int .u64 p∧b=.int .u64 q∧Hid (gc p q=gc x y)∧∃ n,wr=w.drewN n) (fun _ b _=>(intOf b).toNat)
 case atStart=>exact⟨x,y,hx,hx2,hy,hy2,rfl,rfl,rfl,0,rfl⟩
 case round=>
  obtain⟨p,q,hp,hp2,hq,hq2,rfl,rfl,hg,n,rfl⟩:=hrel
  by_cases h0:q=0
  ·subst h0
   go_wp2
   go_ret
   exact⟨ret_int (by rw [← hg.out,gc_zero _ hp]),n,rfl⟩
  ·have hb:(q != 0)=true:=by simpa using h0
   have hm1:0≤p % q:=Int.emod_nonneg _ h0
   have hm2:p % q<q:=Int.emod_lt_of_pos _ (by omega)
   go_wp2
   go_region
   go_wp2
   go_roundw
   case rel=>exact⟨q,p % q,hq,hq2,hm1,by omega,rfl,rfl,(gc_step p q hp hq).trans hg.out,n+1,rfl⟩
   case measure=>simp [intOf];omega
def wN (v:Int):Bool:=decide (v<0)
def wH (v:Int):Int:=mg v / 18446744073709551616
def wL (v:Int):Int:=mg v % 18446744073709551616
def bor (x y:Int):Int:=if x<y then 1 else 0
theorem wH_nonneg (v:Int):0≤wH v:=Int.ediv_nonneg (mg_nonneg v) (by omega)
theorem wL_nonneg (v:Int):0≤wL v:=Int.emod_nonneg _ (by omega)
theorem wL_lt (v:Int):wL v<18446744073709551616:=Int.emod_lt_of_pos _ (by omega)
def Fit (v:Int):Prop:=mg v<340282366920938463463374607431768211456
def Fit6 (v:Int):Prop:=mg v≤85070591730234615865843651857942052864
theorem wH_lt {v:Int} (h:Fit v):wH v<18446744073709551616:=by unfold Fit at h;unfold wH;omega
theorem wHL (v:Int):wH v * 18446744073709551616+wL v=mg v:=by unfold wH wL;omega
theorem Fit6.fit {v:Int} (h:Fit6 v):Fit v:=by unfold Fit6 at h;unfold Fit;omega
theorem Fit6.plus {a b:Int} (h:Fit6 a) (h':Fit6 b):Fit (a+b):=by
 unfold Fit6 mg at *;unfold Fit mg
 split at h <;> split at h' <;> split <;> omega
theorem mg_mul (x y:Int):mg (x * y)=mg x * mg y:=by rw [mg_abs,mg_abs,mg_abs,Int.natAbs_mul,Int.natCast_mul]
theorem fit6_mul (x y:Int) (h1:-9223372036854775808≤x) (h2:x≤9223372036854775807) (h3:-9223372036854775808≤y) (h4:y≤9223372036854775807):Fit6 (x * y):=by
 unfold Fit6
 rw [mg_mul]
 have:=Int.mul_le_mul (mg_le x h1 h2) (mg_le y h3 h4) (mg_nonneg y) (by omega)
 omega
theorem wN_mul (x y:Int):wN (x * y)=((decide (x<0) != decide (y<0)) && !(decide (x * y=0))):=by
 unfold wN
 rcases Int.lt_trichotomy x 0 with hx | rfl | hx <;> rcases Int.lt_trichotomy y 0 with hy | rfl | hy
 ·have:=Int.mul_pos_of_neg_of_neg hx hy;simp [hx,hy];omega
 ·simp
 ·have:=Int.mul_neg_of_neg_of_pos hx hy
  rw [decide_eq_true (show x * y<0 from this),decide_eq_true hx,decide_eq_false (show ¬ y<0 by omega),decide_eq_false (show ¬ x * y=0 by omega)];rfl
 ·simp
 ·simp
 ·simp
 ·have:=Int.mul_neg_of_pos_of_neg hx hy
  rw [decide_eq_true (show x * y<0 from this),decide_eq_true hy,decide_eq_false (show ¬ x<0 by omega),decide_eq_false (show ¬ x * y=0 by omega)];rfl
 ·simp
 ·have:=Int.mul_pos hx hy
  rw [decide_eq_false (show ¬ x * y<0 by omega),decide_eq_false (show ¬ x<0 by omega),decide_eq_false (show ¬ y<0 by omega)];rfl
theorem mul_words (x y:Int):(decide (mg x * mg y / 18446744073709551616=0) && decide (mg x * mg y % 18446744073709551616=0))=decide (x * y=0):=by
 rw [← mg_mul]
 have h:x * y=0↔mg (x * y)=0:=by unfold mg;split <;> omega
 have h0:=mg_nonneg (x * y)
 rw [Bool.eq_iff_iff]
 simp only [Bool.and_eq_true,decide_eq_true_eq,h]
 omega
set_option linter.unusedSimpArgs false
set_option linter.unusedVariables false
theorem mul64_any (x y:Int) (w:World) (hx:0≤x) (hx2:x<18446744073709551616) (hy:0≤y) (hy2:y<18446744073709551616) :
  Calls Tryz.prog 147 #[.int .u64 x,.int .u64 y] w fun e w'=>e=.returned (.tuple #[.int .u64 (x * y / 18446744073709551616),.int .u64 (x * y % 18446744073709551616)])∧w=w':=by
 obtain⟨x,rfl⟩:=Int.eq_ofNat_of_zero_le hx
 obtain⟨y,rfl⟩:=Int.eq_ofNat_of_zero_le hy
 refine (Tryz.bits_Mul64 x y (by omega) (by omega) w).mono ?_
 rintro e w' ⟨rfl,rfl⟩
 exact⟨by simp,rfl⟩
theorem or_ne_zero (a b:Int) (h1:0≤a) (h2:a<18446744073709551616) (h3:0≤b) (h4:b<18446744073709551616):(bits .or .u64 a b != 0)=!(decide (a=0) && decide (b=0)):=by
 rw [u64_or a b h1 h2 h3 h4]
 by_cases ha:a=0
 ·subst ha
  by_cases hb:b=0
  ·subst hb;rfl
  ·have:(0:Int).toNat ||| b.toNat≠0:=by simp;omega
   simp [hb];omega
 ·have:a.toNat ||| b.toNat≠0:=by
   intro h
   have:=Nat.or_eq_zero_iff.1 h
   omega
  simp [ha];omega
set_option maxHeartbeats 400000 in
theorem product_any (x y:Int) (w:World) (h1:-9223372036854775808≤x) (h2:x≤9223372036854775807) (h3:-9223372036854775808≤y) (h4:y≤9223372036854775807) :
  Calls Tryz.prog 133 #[.int .i64 x,.int .i64 y] w fun e w'=>e=.returned (.agg #[.bool (wN (x * y)),.int .u64 (wH (x * y)),.int .u64 (wL (x * y))])∧Gr w w':=by
 have b1:=mg_nonneg x
 have b2:=mg_nonneg y
 have b3:=mg_lt x h1 h2
 have b4:=mg_lt y h3 h4
 by_cases hx:x<0
 all_goals by_cases hy:y<0
 all_goals
  go_enter Tryz.func133,Tryz.ntmps133
  go_wp2_with (first
   | (go_at_call 104;refine (magnitude_any _ _ (by omega) (by omega)).mono ?_;rintro e w' ⟨rfl,rfl⟩)
   | (go_at_call 147;refine (mul64_any _ _ _ (by omega) (by omega) (by omega) (by omega)).mono ?_;rintro e w' ⟨rfl,rfl⟩))
  simp [bodyPost,results,Tryz.results133,go_sem]
  refine⟨⟨?_,?_,?_⟩,(Gr.refl _).alloc _⟩
  ·have hw:=wN_mul x y
   have hl:mg x * mg y≤18446744073709551615 * 18446744073709551615:=Int.mul_le_mul (by omega) (by omega) b2 (by omega)
   have hp:0≤mg x * mg y:=Int.mul_nonneg b1 b2
   have ho:=or_ne_zero (mg x * mg y / 18446744073709551616) (mg x * mg y % 18446744073709551616) (by omega) (by omega) (by omega) (by omega)
   rw [mul_words] at ho
   rw [hw]
   first | (simp [ho,hx,hy];done) | (simp [Int.not_lt.2 hx,Int.not_lt.2 hy];done)
  ·unfold wH;rw [mg_mul]
  ·unfold wL;rw [mg_mul]
theorem add64 (x y c:Int) (hx:0≤x) (hx2:x<18446744073709551616) (hy:0≤y) (hy2:y<18446744073709551616) (hc0:0≤c) (hc:c≤1) (w:World):(callFunc 153 #[.int .u64 x,.int .u64 y,.int .u64 c]).run Tryz.prog w =
  .ok (.value (.tuple #[.int .u64 ((x+y+c) % 18446744073709551616),.int .u64 ((x+y+c) / 18446744073709551616)])) w:=by
 obtain⟨x,rfl⟩:=Int.eq_ofNat_of_zero_le hx
 obtain⟨y,rfl⟩:=Int.eq_ofNat_of_zero_le hy
 obtain⟨c,rfl⟩:=Int.eq_ofNat_of_zero_le hc0
 rw [run_callFunc_extern Tryz.func153 (by kernel_rfl) (by kernel_rfl) (by kernel_rfl) (e:=add64Entry) (by kernel_rfl),run_add64 x y c (by omega) (by omega) (by omega) (by omega)]
 simp only [Result.andThen]
 try (congr 5 <;> omega)
theorem sub64 (x y b:Int) (hx:0≤x) (hy:0≤y) (hy2:y<18446744073709551616) (hb0:0≤b) (hb:b≤1) (w:World):(callFunc 154 #[.int .u64 x,.int .u64 y,.int .u64 b]).run Tryz.prog w =
  .ok (.value (.tuple #[.int .u64 ((x - y - b) % 18446744073709551616),.int .u64 (if x<y+b then 1 else 0)])) w:=by
 obtain⟨x,rfl⟩:=Int.eq_ofNat_of_zero_le hx
 obtain⟨y,rfl⟩:=Int.eq_ofNat_of_zero_le hy
 obtain⟨b,rfl⟩:=Int.eq_ofNat_of_zero_le hb0
 have e1:(((x+18446744073709551616 - y - b) % 18446744073709551616:Nat):Int)=((x:Int) - y - b) % 18446744073709551616:=by omega
 have e2:((if x<y+b then 1 else 0:Nat):Int)=if (x:Int)<y+b then 1 else 0:=by split <;> split <;> omega
 rw [← e1,← e2,run_callFunc_extern Tryz.func154 (by kernel_rfl) (by kernel_rfl) (by kernel_rfl) (e:=sub64Entry) (by kernel_rfl),run_sub64 x y b (by omega)]
 rfl
theorem add64_0 (x y:Int) (hx:0≤x) (hx2:x<18446744073709551616) (hy:0≤y) (hy2:y<18446744073709551616) (w:World):(callFunc 153 #[.int .u64 x,.int .u64 y,.int .u64 0]).run Tryz.prog w =
  .ok (.value (.tuple #[.int .u64 ((x+y) % 18446744073709551616),.int .u64 ((x+y) / 18446744073709551616)])) w:=by
 simpa using add64 x y 0 hx hx2 hy hy2 (Int.le_refl 0) (by decide) w
theorem sub64_0 (x y:Int) (hx:0≤x) (hy:0≤y) (hy2:y<18446744073709551616) (w:World):(callFunc 154 #[.int .u64 x,.int .u64 y,.int .u64 0]).run Tryz.prog w =
  .ok (.value (.tuple #[.int .u64 ((x - y) % 18446744073709551616),.int .u64 (bor x y)])) w:=by
 have:=sub64 x y 0 hx hy hy2 (Int.le_refl 0) (by decide) w
 simp only [Int.sub_zero,Int.add_zero] at this
 exact this
set_option maxHeartbeats 400000 in
theorem wplus_same (ah al bh bl:Int) (n:Bool) (w:World) (a1:0≤ah) (a2:ah<18446744073709551616) (a3:0≤al) (a4:al<18446744073709551616) (b1:0≤bh) (b2:bh<18446744073709551616) (b3:0≤bl) (b4:bl<18446744073709551616) :
  Calls Tryz.prog 136 #[.agg #[.bool n,.int .u64 ah,.int .u64 al],.agg #[.bool n,.int .u64 bh,.int .u64 bl]] w fun e w'=>
   e=.returned (.agg #[.bool n,.int .u64 ((ah+bh+(al+bl) / 18446744073709551616) % 18446744073709551616),.int .u64 ((al+bl) % 18446744073709551616)])∧Gr w w':=by
 have k0:0≤(al+bl) / 18446744073709551616:=by omega
 have k1:(al+bl) / 18446744073709551616≤1:=by omega
 go_enter Tryz.func136,Tryz.ntmps136
 go_wp2_with (first | simp only [add64_0 al bl a3 a4 b3 b4] | simp only [add64 ah bh _ a1 a2 b1 b2 k0 k1])
 all_goals (simp [bodyPost,results,Tryz.results136,go_sem];try exact (by repeat (first | refine Gr.setCell ?_ (by first | omega | (simp;done) | (simp;omega)) _ | refine Gr.alloc ?_ _ | refine Gr.drew ?_ | refine Gr.drewN ?_ _ | with_reducible assumption | with_reducible exact Gr.refl _ | refine Gr.trans ?_ (by with_reducible assumption))))
set_option maxHeartbeats 1000000 in
theorem wplus_ge (ah al bh bl:Int) (n m:Bool) (w:World) (hn:(n == m)=false) (a1:0≤ah) (a2:ah<18446744073709551616) (a3:0≤al) (a4:al<18446744073709551616) (b1:0≤bh) (b2:bh<18446744073709551616) (b3:0≤bl) (b4:bl<18446744073709551616) (h1:¬ ah<bh) (h2:ah≠bh∨¬ al<bl) :
  Calls Tryz.prog 136 #[.agg #[.bool n,.int .u64 ah,.int .u64 al],.agg #[.bool m,.int .u64 bh,.int .u64 bl]] w fun e w'=>
   e=.returned (.agg #[.bool (n && bits .or .u64 ((ah - bh - bor al bl) % 18446744073709551616) ((al - bl) % 18446744073709551616) != 0),.int .u64 ((ah - bh - bor al bl) % 18446744073709551616),.int .u64 ((al - bl) % 18446744073709551616)])∧Gr w w':=by
 have k0:0≤bor al bl:=by unfold bor;split <;> omega
 have k1:bor al bl≤1:=by unfold bor;split <;> omega
 have k2:∀ w,(callFunc 154 #[.int .u64 ah,.int .u64 bh,.int .u64 (bor al bl)]).run Tryz.prog w=.ok (.value (.tuple #[.int .u64 ((ah - bh - bor al bl) % 18446744073709551616),.int .u64 (bor ah (bh+bor al bl))])) w:=fun w=>sub64 ah bh (bor al bl) a1 b1 b2 k0 k1 w
 by_cases h3:ah=bh
 ·have h4:¬ al<bl:=by omega
  have h5:(ah == bh)=true:=by simpa using h3
  clear h3 h2
  go_enter Tryz.func136,Tryz.ntmps136
  go_wp2_with (first | simp only [sub64_0 al bl a3 b3 b4] | simp only [k2])
  all_goals (simp [bodyPost,results,Tryz.results136,go_sem];exact (by repeat (first | refine Gr.setCell ?_ (by first | omega | (simp;done) | (simp;omega)) _ | refine Gr.alloc ?_ _ | refine Gr.drew ?_ | refine Gr.drewN ?_ _ | with_reducible assumption | with_reducible exact Gr.refl _ | refine Gr.trans ?_ (by with_reducible assumption))))
 ·have h5:(ah == bh)=false:=by simpa using h3
  clear h3 h2
  go_enter Tryz.func136,Tryz.ntmps136
  go_wp2_with (first | simp only [sub64_0 al bl a3 b3 b4] | simp only [k2])
  all_goals (simp [bodyPost,results,Tryz.results136,go_sem];exact (by repeat (first | refine Gr.setCell ?_ (by first | omega | (simp;done) | (simp;omega)) _ | refine Gr.alloc ?_ _ | refine Gr.drew ?_ | refine Gr.drewN ?_ _ | with_reducible assumption | with_reducible exact Gr.refl _ | refine Gr.trans ?_ (by with_reducible assumption))))
set_option maxHeartbeats 1000000 in
theorem wplus_lt (ah al bh bl:Int) (n m:Bool) (w:World) (hn:(n == m)=false) (a1:0≤ah) (a2:ah<18446744073709551616) (a3:0≤al) (a4:al<18446744073709551616) (b1:0≤bh) (b2:bh<18446744073709551616) (b3:0≤bl) (b4:bl<18446744073709551616) (h2:ah<bh∨(ah=bh∧al<bl)) :
  Calls Tryz.prog 136 #[.agg #[.bool n,.int .u64 ah,.int .u64 al],.agg #[.bool m,.int .u64 bh,.int .u64 bl]] w fun e w'=>
   e=.returned (.agg #[.bool (m && bits .or .u64 ((bh - ah - bor bl al) % 18446744073709551616) ((bl - al) % 18446744073709551616) != 0),.int .u64 ((bh - ah - bor bl al) % 18446744073709551616),.int .u64 ((bl - al) % 18446744073709551616)])∧Gr w w':=by
 have k0:0≤bor bl al:=by unfold bor;split <;> omega
 have k1:bor bl al≤1:=by unfold bor;split <;> omega
 have k2:∀ w,(callFunc 154 #[.int .u64 bh,.int .u64 ah,.int .u64 (bor bl al)]).run Tryz.prog w=.ok (.value (.tuple #[.int .u64 ((bh - ah - bor bl al) % 18446744073709551616),.int .u64 (bor bh (ah+bor bl al))])) w:=fun w=>sub64 bh ah (bor bl al) b1 a1 a2 k0 k1 w
 have hnm:m=!n:=by cases n <;> cases m <;> simp at hn ⊢
 subst hnm
 clear hn
 rcases (show ah<bh∨(¬ ah<bh∧ah=bh∧al<bl) by omega) with h3 | ⟨h3,h4,h6⟩
 ·clear h2
  cases n
  all_goals simp only [Bool.not_false,Bool.not_true]
  all_goals
   go_enter Tryz.func136,Tryz.ntmps136
   go_wp2_with (first | simp only [sub64_0 bl al b3 a3 a4] | simp only [k2])
   all_goals (simp [bodyPost,results,Tryz.results136,go_sem];try exact (by repeat (first | refine Gr.setCell ?_ (by first | omega | (simp;done) | (simp;omega)) _ | refine Gr.alloc ?_ _ | refine Gr.drew ?_ | refine Gr.drewN ?_ _ | with_reducible assumption | with_reducible exact Gr.refl _ | refine Gr.trans ?_ (by with_reducible assumption))))
 ·have h5:(ah == bh)=true:=by simpa using h4
  clear h2 h4
  cases n
  all_goals simp only [Bool.not_false,Bool.not_true]
  all_goals
   go_enter Tryz.func136,Tryz.ntmps136
   go_wp2_with (first | simp only [sub64_0 bl al b3 a3 a4] | simp only [k2])
   all_goals (simp [bodyPost,results,Tryz.results136,go_sem];try exact (by repeat (first | refine Gr.setCell ?_ (by first | omega | (simp;done) | (simp;omega)) _ | refine Gr.alloc ?_ _ | refine Gr.drew ?_ | refine Gr.drewN ?_ _ | with_reducible assumption | with_reducible exact Gr.refl _ | refine Gr.trans ?_ (by with_reducible assumption))))
end Go.Proofs.YtnginfangeikpaaGreatDoor
