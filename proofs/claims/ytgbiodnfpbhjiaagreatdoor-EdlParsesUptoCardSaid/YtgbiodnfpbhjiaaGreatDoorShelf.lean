/-
  DERIVED: THE SHELF's CONTRACTS AT THIS DUMP, IN PLAIN WORDS (tools/lay-plain.mjs out of 'TryzShelf.lean', which tools/lay-shelf.mjs wrote): THE SAME DECLARATIONS UNDER THE SAME NAMES: 'import', 'namespace', 'open', 'def', 'theorem' AND NOTHING ELSE: no command of the shelf's: FOR A HAND-IN. Each laying: the table of numbers ('.._ren') and one theorem, a field a fact of the dump's own or the kernel's comparison; each contract: ONE APPLICATION.
-/
import Derived.Shelf.Strings.Builder1
import Derived.Shelf.Small.Bits
import Derived.Shelf.Strings.BuilderF
import Derived.Shelf.Strings.BuilderK
import Derived.Shelf.Strconv.Itoa0
import Derived.Shelf.Strconv.Itoa1
import Derived.Shelf.LaysM
import Derived.Shelf.Strconv.Itoa2
import Derived.Shelf.Strconv.Itoa3
import Derived.Shelf.Strconv.Itoa4
import Derived.Shelf.Strconv.ParseIntEmpty
import Derived.Shelf.Strconv.Clone
import Derived.Shelf.Strconv.SyntaxError
import Derived.Shelf.LaysC
import Derived.Shelf.Strconv.ToError
import Derived.Shelf.Strconv.Lower
import Derived.Shelf.Strconv.ParseUint10
import Derived.Shelf.Strconv.ParseUint10Empty
import Derived.Shelf.Strconv.ParseUint10Any
import Derived.Shelf.Strconv.ParseInt10
import Derived.Shelf.Strconv.RangeError
import Derived.Shelf.Strconv.ToErrorRange
import Derived.Shelf.Strconv.ParseUintEmpty
import Derived.Shelf.Strconv.ParseUint10b64
import Derived.Shelf.Strconv.ParseUint10b32
import Derived.Shelf.Strconv.ParseUint10b16
import Derived.Shelf.Strconv.ParseUint10b8
import Derived.Shelf.Strconv.ParseUint10At
import Derived.Shelf.Strconv.ParseInt10At64
import Derived.Shelf.Strconv.ParseInt10At32
import Derived.Shelf.Strconv.ParseInt10At16
import Derived.Shelf.Strconv.ParseInt10At8
import Derived.Shelf.Strconv.ParseInt10All
import Derived.Shelf.Strconv.ParseIntPublic10
import Derived.Shelf.Strconv.ErrVarParseInt
import Derived.Shelf.Strings.Search1
import Derived.Shelf.Strings.Search2
import Derived.Shelf.Strings.Search3
import Derived.Shelf.Strings.Cut
import Derived.Shelf.Strings.Count
import Derived.Shelf.Strings.Shaped
import Derived.Shelf.Bits.Mul64
import Derived.Shelf.Unicode.DecodeSlow
import Derived.Test.YtgbiodnfpbhjiaaGreatDoorProg
namespace Go.Proofs
open Go.Shelf
def Tryz.lays134_ren:Go.Shelf.Ren:=⟨fun | 134=>266 | 129=>233 | n=>n,fun | 53=>114 | 3=>3 | 4=>4 | 46=>203 | 5=>5 | 9=>9 | n=>n,fun | n=>n⟩
theorem Tryz.lays134:Go.Proofs.Lays.n134 Tryz.prog Tryz.lays134_ren:={
 mixed:=by kernel_rfl
 f129:=Tryz.func233.trans (congrArg some (by kernel_rfl))
 f134:=Tryz.func266.trans (congrArg some (by kernel_rfl))
 t3:=Tryz.underlying3
 a3:=Tryz.isAgg3
 z3:=Tryz.sizeOf3
 v3:=Tryz.zeroValue3
 t4:=Tryz.underlying4
 a4:=Tryz.isAgg4
 z4:=Tryz.sizeOf4
 v4:=Tryz.zeroValue4
 t5:=Tryz.underlying5
 a5:=Tryz.isAgg5
 z5:=Tryz.sizeOf5
 v5:=Tryz.zeroValue5
 t9:=Tryz.underlying9
 a9:=Tryz.isAgg9
 z9:=Tryz.sizeOf9
 v9:=Tryz.zeroValue9
 t46:=Tryz.underlying203
 a46:=Tryz.isAgg203
 z46:=Tryz.sizeOf203
 v46:=Tryz.zeroValue203
 t53:=Tryz.underlying114
 a53:=Tryz.isAgg114
 z53:=Tryz.sizeOf114
 v53:=Tryz.zeroValue114 }
theorem Tryz.bits_LeadingZeros64 (x:Int) (w:World) (h0:0≤x) (h1:x≤18446744073709551615) :
  Calls Tryz.prog 266 #[.int .u64 x] w fun e w'=>e=.returned (.int .i64 (64 - (Lib.bitLen x.toNat:Int)))∧w'=w:=Any.bits_LeadingZeros64 Tryz.lays134 x w h0 h1
def Tryz.laysM246_ren:Go.Shelf.Ren:=⟨fun | 246=>170 | 283=>204 | 284=>205 | 285=>206 | 286=>207 | 129=>233 | 317=>232 | 318=>234 | 319=>235 | 320=>236 | 337=>256 | 338=>257 | n=>n,fun | 2=>2 | 3=>3 | 9=>9 | 4=>4 | 171=>247 | 0=>0 | 53=>114 | 37=>51 | 5=>5 | 173=>250 | 212=>278 | 51=>252 | 20=>20 | 213=>279 | 46=>203 | 232=>305 | 233=>111 | n=>n,fun | 17=>1 | 18=>6 | 19=>7 | n=>n⟩
def Tryz.laysM243_ren:Go.Shelf.Ren:=⟨fun | 243=>135 | 246=>170 | 283=>204 | 284=>205 | 285=>206 | 286=>207 | 129=>233 | 317=>232 | 318=>234 | 319=>235 | 320=>236 | 337=>256 | 338=>257 | n=>n,fun | 3=>3 | 9=>9 | 2=>2 | 4=>4 | 171=>247 | 0=>0 | 53=>114 | 37=>51 | 5=>5 | 173=>250 | 212=>278 | 51=>252 | 20=>20 | 213=>279 | 46=>203 | 232=>305 | 233=>111 | n=>n,fun | 17=>1 | 18=>6 | 19=>7 | n=>n⟩
def Tryz.laysM171_ren:Go.Shelf.Ren:=⟨fun | 171=>102 | 243=>135 | 246=>170 | 283=>204 | 284=>205 | 285=>206 | 286=>207 | 129=>233 | 317=>232 | 318=>234 | 319=>235 | 320=>236 | 337=>256 | 338=>257 | n=>n,fun | 3=>3 | 9=>9 | 2=>2 | 4=>4 | 171=>247 | 0=>0 | 53=>114 | 37=>51 | 5=>5 | 173=>250 | 212=>278 | 51=>252 | 20=>20 | 213=>279 | 46=>203 | 232=>305 | 233=>111 | n=>n,fun | 17=>1 | 18=>6 | 19=>7 | n=>n⟩
theorem Tryz.laysM171:Go.Proofs.LaysM.n171 Tryz.prog Tryz.laysM171_ren:={
 mixed:=by kernel_rfl
 f129:=Tryz.func233.trans (congrArg some (by kernel_rfl))
 f171:=Tryz.func102.trans (congrArg some (by kernel_rfl))
 f243:=Tryz.func135.trans (congrArg some (by kernel_rfl))
 f246:=Tryz.func170.trans (congrArg some (by kernel_rfl))
 f283:=Tryz.func204.trans (congrArg some (by kernel_rfl))
 f284:=Tryz.func205.trans (congrArg some (by kernel_rfl))
 f285:=Tryz.func206.trans (congrArg some (by kernel_rfl))
 f286:=Tryz.func207.trans (congrArg some (by kernel_rfl))
 f317:=Tryz.func232.trans (congrArg some (by kernel_rfl))
 f318:=Tryz.func234.trans (congrArg some (by kernel_rfl))
 f319:=Tryz.func235.trans (congrArg some (by kernel_rfl))
 f320:=Tryz.func236.trans (congrArg some (by kernel_rfl))
 f337:=Tryz.func256.trans (congrArg some (by kernel_rfl))
 f338:=Tryz.func257.trans (congrArg some (by kernel_rfl))
 t0:=Tryz.underlying0
 a0:=Tryz.isAgg0
 z0:=Tryz.sizeOf0
 v0:=Tryz.zeroValue0
 t2:=Tryz.underlying2
 a2:=Tryz.isAgg2
 z2:=Tryz.sizeOf2
 v2:=Tryz.zeroValue2
 t3:=Tryz.underlying3
 a3:=Tryz.isAgg3
 z3:=Tryz.sizeOf3
 v3:=Tryz.zeroValue3
 t4:=Tryz.underlying4
 a4:=Tryz.isAgg4
 z4:=Tryz.sizeOf4
 v4:=Tryz.zeroValue4
 t5:=Tryz.underlying5
 a5:=Tryz.isAgg5
 z5:=Tryz.sizeOf5
 v5:=Tryz.zeroValue5
 t9:=Tryz.underlying9
 a9:=Tryz.isAgg9
 z9:=Tryz.sizeOf9
 v9:=Tryz.zeroValue9
 t20:=Tryz.underlying20
 a20:=Tryz.isAgg20
 z20:=Tryz.sizeOf20
 v20:=Tryz.zeroValue20
 t37:=Tryz.underlying51
 a37:=Tryz.isAgg51
 z37:=Tryz.sizeOf51
 v37:=Tryz.zeroValue51
 t46:=Tryz.underlying203
 a46:=Tryz.isAgg203
 z46:=Tryz.sizeOf203
 v46:=Tryz.zeroValue203
 t51:=Tryz.underlying252
 a51:=Tryz.isAgg252
 z51:=Tryz.sizeOf252
 v51:=Tryz.zeroValue252
 t53:=Tryz.underlying114
 a53:=Tryz.isAgg114
 z53:=Tryz.sizeOf114
 v53:=Tryz.zeroValue114
 t171:=Tryz.underlying247
 a171:=Tryz.isAgg247
 z171:=Tryz.sizeOf247
 v171:=Tryz.zeroValue247
 t173:=Tryz.underlying250
 a173:=Tryz.isAgg250
 z173:=Tryz.sizeOf250
 v173:=Tryz.zeroValue250
 t212:=Tryz.underlying278
 a212:=Tryz.isAgg278
 z212:=Tryz.sizeOf278
 v212:=Tryz.zeroValue278
 t213:=Tryz.underlying279
 a213:=Tryz.isAgg279
 z213:=Tryz.sizeOf279
 t232:=Tryz.underlying305
 a232:=Tryz.isAgg305
 z232:=Tryz.sizeOf305
 v232:=Tryz.zeroValue305
 t233:=Tryz.underlying111
 a233:=Tryz.isAgg111
 z233:=Tryz.sizeOf111
 v233:=Tryz.zeroValue111
 g17:=by kernel_rfl
 g18:=by kernel_rfl
 g19:=by kernel_rfl
 i0:=by kernel_rfl
 i2:=by kernel_rfl
 i3:=by kernel_rfl
 i4:=by kernel_rfl
 i5:=by kernel_rfl
 i9:=by kernel_rfl
 i20:=by kernel_rfl
 i37:=by kernel_rfl
 i46:=by kernel_rfl
 i51:=by kernel_rfl
 i53:=by kernel_rfl
 i171:=by kernel_rfl
 i173:=by kernel_rfl
 i212:=by kernel_rfl
 i232:=by kernel_rfl
 i233:=by kernel_rfl
 m17:=by kernel_rfl
 m18:=by kernel_rfl
 m19:=by kernel_rfl }
open Go.RowKit Go.Sort Go.Lib in
theorem Tryz.strconv_Itoa (n:Int) (h0:-9223372036854775808≤n) (h1:n≤9223372036854775807) (w:World) (htab:Lib.TabIs Tryz.prog w "internal/strconv.uint64pow10" .u64 Lib.pow10Tab) :
  Calls Tryz.prog 102 #[.int .i64 n] w fun e w'=>e=.returned (.string ⟨(Lib.itoa n).toArray⟩)∧∃ k os,w'=grow (w.drewN k) os:=Any.strconv_Itoa Tryz.laysM171 n h0 h1 w htab
def Tryz.laysM173_ren:Go.Shelf.Ren:=⟨fun | 173=>131 | 246=>170 | 283=>204 | 284=>205 | 285=>206 | 286=>207 | 129=>233 | 317=>232 | 318=>234 | 319=>235 | 320=>236 | 337=>256 | 338=>257 | n=>n,fun | 2=>2 | 3=>3 | 9=>9 | 4=>4 | 171=>247 | 0=>0 | 53=>114 | 37=>51 | 5=>5 | 173=>250 | 212=>278 | 51=>252 | 20=>20 | 213=>279 | 46=>203 | 232=>305 | 233=>111 | n=>n,fun | 17=>1 | 18=>6 | 19=>7 | n=>n⟩
theorem Tryz.laysM173:Go.Proofs.LaysM.n173 Tryz.prog Tryz.laysM173_ren:={
 mixed:=by kernel_rfl
 f129:=Tryz.func233.trans (congrArg some (by kernel_rfl))
 f173:=Tryz.func131.trans (congrArg some (by kernel_rfl))
 f246:=Tryz.func170.trans (congrArg some (by kernel_rfl))
 f283:=Tryz.func204.trans (congrArg some (by kernel_rfl))
 f284:=Tryz.func205.trans (congrArg some (by kernel_rfl))
 f285:=Tryz.func206.trans (congrArg some (by kernel_rfl))
 f286:=Tryz.func207.trans (congrArg some (by kernel_rfl))
 f317:=Tryz.func232.trans (congrArg some (by kernel_rfl))
 f318:=Tryz.func234.trans (congrArg some (by kernel_rfl))
 f319:=Tryz.func235.trans (congrArg some (by kernel_rfl))
 f320:=Tryz.func236.trans (congrArg some (by kernel_rfl))
 f337:=Tryz.func256.trans (congrArg some (by kernel_rfl))
 f338:=Tryz.func257.trans (congrArg some (by kernel_rfl))
 t0:=Tryz.underlying0
 a0:=Tryz.isAgg0
 z0:=Tryz.sizeOf0
 v0:=Tryz.zeroValue0
 t2:=Tryz.underlying2
 a2:=Tryz.isAgg2
 z2:=Tryz.sizeOf2
 v2:=Tryz.zeroValue2
 t3:=Tryz.underlying3
 a3:=Tryz.isAgg3
 z3:=Tryz.sizeOf3
 v3:=Tryz.zeroValue3
 t4:=Tryz.underlying4
 a4:=Tryz.isAgg4
 z4:=Tryz.sizeOf4
 v4:=Tryz.zeroValue4
 t5:=Tryz.underlying5
 a5:=Tryz.isAgg5
 z5:=Tryz.sizeOf5
 v5:=Tryz.zeroValue5
 t9:=Tryz.underlying9
 a9:=Tryz.isAgg9
 z9:=Tryz.sizeOf9
 v9:=Tryz.zeroValue9
 t20:=Tryz.underlying20
 a20:=Tryz.isAgg20
 z20:=Tryz.sizeOf20
 v20:=Tryz.zeroValue20
 t37:=Tryz.underlying51
 a37:=Tryz.isAgg51
 z37:=Tryz.sizeOf51
 v37:=Tryz.zeroValue51
 t46:=Tryz.underlying203
 a46:=Tryz.isAgg203
 z46:=Tryz.sizeOf203
 v46:=Tryz.zeroValue203
 t51:=Tryz.underlying252
 a51:=Tryz.isAgg252
 z51:=Tryz.sizeOf252
 v51:=Tryz.zeroValue252
 t53:=Tryz.underlying114
 a53:=Tryz.isAgg114
 z53:=Tryz.sizeOf114
 v53:=Tryz.zeroValue114
 t171:=Tryz.underlying247
 a171:=Tryz.isAgg247
 z171:=Tryz.sizeOf247
 v171:=Tryz.zeroValue247
 t173:=Tryz.underlying250
 a173:=Tryz.isAgg250
 z173:=Tryz.sizeOf250
 v173:=Tryz.zeroValue250
 t212:=Tryz.underlying278
 a212:=Tryz.isAgg278
 z212:=Tryz.sizeOf278
 v212:=Tryz.zeroValue278
 t213:=Tryz.underlying279
 a213:=Tryz.isAgg279
 z213:=Tryz.sizeOf279
 t232:=Tryz.underlying305
 a232:=Tryz.isAgg305
 z232:=Tryz.sizeOf305
 v232:=Tryz.zeroValue305
 t233:=Tryz.underlying111
 a233:=Tryz.isAgg111
 z233:=Tryz.sizeOf111
 v233:=Tryz.zeroValue111
 g17:=by kernel_rfl
 g18:=by kernel_rfl
 g19:=by kernel_rfl
 i0:=by kernel_rfl
 i2:=by kernel_rfl
 i3:=by kernel_rfl
 i4:=by kernel_rfl
 i5:=by kernel_rfl
 i9:=by kernel_rfl
 i20:=by kernel_rfl
 i37:=by kernel_rfl
 i46:=by kernel_rfl
 i51:=by kernel_rfl
 i53:=by kernel_rfl
 i171:=by kernel_rfl
 i173:=by kernel_rfl
 i212:=by kernel_rfl
 i232:=by kernel_rfl
 i233:=by kernel_rfl
 m17:=by kernel_rfl
 m18:=by kernel_rfl
 m19:=by kernel_rfl }
open Go.RowKit Go.Sort Go.Lib in
theorem Tryz.strconv_FormatInt_10 (n:Int) (h0:-9223372036854775808≤n) (h1:n≤9223372036854775807) (w:World) (htab:Lib.TabIs Tryz.prog w "internal/strconv.uint64pow10" .u64 Lib.pow10Tab) :
  Calls Tryz.prog 131 #[.int .i64 n,.int .i64 10] w fun e w'=>e=.returned (.string ⟨(Lib.itoa n).toArray⟩)∧∃ k os,w'=grow (w.drewN k) os:=Any.strconv_FormatInt_10 Tryz.laysM173 n h0 h1 w htab
def Tryz.laysC245_ren:Go.Shelf.Ren:=⟨fun | 245=>221 | 279=>244 | 280=>245 | 281=>246 | 282=>247 | 316=>261 | 171=>102 | 205=>262 | 243=>135 | 246=>170 | 283=>204 | 284=>205 | 285=>206 | 286=>207 | 129=>233 | 317=>232 | 318=>234 | 319=>235 | 320=>236 | 337=>256 | 338=>257 | n=>n,fun | 9=>9 | 3=>3 | 75=>145 | 167=>286 | 4=>4 | 168=>289 | 210=>301 | 37=>51 | 0=>0 | 127=>150 | 145=>312 | 143=>310 | 2=>2 | 171=>247 | 53=>114 | 5=>5 | 173=>250 | 212=>278 | 51=>252 | 20=>20 | 213=>279 | 46=>203 | 232=>305 | 233=>111 | 80=>103 | n=>n,fun | 15=>2 | 16=>3 | 17=>1 | 18=>6 | 19=>7 | n=>n⟩
def Tryz.laysC174_ren:Go.Shelf.Ren:=⟨fun | 174=>180 | 247=>220 | 245=>221 | 287=>243 | 279=>244 | 280=>245 | 281=>246 | 282=>247 | 321=>259 | 322=>260 | 316=>261 | 171=>102 | 205=>262 | 243=>135 | 246=>170 | 283=>204 | 284=>205 | 285=>206 | 286=>207 | 129=>233 | 317=>232 | 318=>234 | 319=>235 | 320=>236 | 337=>256 | 338=>257 | n=>n,fun | 9=>9 | 3=>3 | 2=>2 | 75=>145 | 85=>225 | 4=>4 | 167=>286 | 5=>5 | 53=>114 | 175=>287 | 46=>203 | 168=>289 | 37=>51 | 0=>0 | 210=>301 | 21=>21 | 127=>150 | 145=>312 | 143=>310 | 171=>247 | 173=>250 | 212=>278 | 51=>252 | 20=>20 | 213=>279 | 232=>305 | 233=>111 | 80=>103 | n=>n,fun | 15=>2 | 16=>3 | 17=>1 | 18=>6 | 19=>7 | n=>n⟩
theorem Tryz.laysC174:Go.Proofs.LaysC.n174 Tryz.prog Tryz.laysC174_ren:={
 mixed:=by kernel_rfl
 f129:=Tryz.func233.trans (congrArg some (by kernel_rfl))
 f171:=Tryz.func102.trans (congrArg some (by kernel_rfl))
 f174:=Tryz.func180.trans (congrArg some (by kernel_rfl))
 f205:=Tryz.func262.trans (congrArg some (by kernel_rfl))
 f243:=Tryz.func135.trans (congrArg some (by kernel_rfl))
 f245:=Tryz.func221.trans (congrArg some (by kernel_rfl))
 f246:=Tryz.func170.trans (congrArg some (by kernel_rfl))
 f247:=Tryz.func220.trans (congrArg some (by kernel_rfl))
 f279:=Tryz.func244.trans (congrArg some (by kernel_rfl))
 f280:=Tryz.func245.trans (congrArg some (by kernel_rfl))
 f281:=Tryz.func246.trans (congrArg some (by kernel_rfl))
 f282:=Tryz.func247.trans (congrArg some (by kernel_rfl))
 f283:=Tryz.func204.trans (congrArg some (by kernel_rfl))
 f284:=Tryz.func205.trans (congrArg some (by kernel_rfl))
 f285:=Tryz.func206.trans (congrArg some (by kernel_rfl))
 f286:=Tryz.func207.trans (congrArg some (by kernel_rfl))
 f287:=Tryz.func243.trans (congrArg some (by kernel_rfl))
 f316:=Tryz.func261.trans (congrArg some (by kernel_rfl))
 f317:=Tryz.func232.trans (congrArg some (by kernel_rfl))
 f318:=Tryz.func234.trans (congrArg some (by kernel_rfl))
 f319:=Tryz.func235.trans (congrArg some (by kernel_rfl))
 f320:=Tryz.func236.trans (congrArg some (by kernel_rfl))
 f321:=Tryz.func259.trans (congrArg some (by kernel_rfl))
 f322:=Tryz.func260.trans (congrArg some (by kernel_rfl))
 f337:=Tryz.func256.trans (congrArg some (by kernel_rfl))
 f338:=Tryz.func257.trans (congrArg some (by kernel_rfl))
 t0:=Tryz.underlying0
 a0:=Tryz.isAgg0
 z0:=Tryz.sizeOf0
 v0:=Tryz.zeroValue0
 t2:=Tryz.underlying2
 a2:=Tryz.isAgg2
 z2:=Tryz.sizeOf2
 v2:=Tryz.zeroValue2
 t3:=Tryz.underlying3
 a3:=Tryz.isAgg3
 z3:=Tryz.sizeOf3
 v3:=Tryz.zeroValue3
 t4:=Tryz.underlying4
 a4:=Tryz.isAgg4
 z4:=Tryz.sizeOf4
 v4:=Tryz.zeroValue4
 t5:=Tryz.underlying5
 a5:=Tryz.isAgg5
 z5:=Tryz.sizeOf5
 v5:=Tryz.zeroValue5
 t9:=Tryz.underlying9
 a9:=Tryz.isAgg9
 z9:=Tryz.sizeOf9
 v9:=Tryz.zeroValue9
 t20:=Tryz.underlying20
 a20:=Tryz.isAgg20
 z20:=Tryz.sizeOf20
 v20:=Tryz.zeroValue20
 t21:=Tryz.underlying21
 a21:=Tryz.isAgg21
 z21:=Tryz.sizeOf21
 v21:=Tryz.zeroValue21
 t37:=Tryz.underlying51
 a37:=Tryz.isAgg51
 z37:=Tryz.sizeOf51
 v37:=Tryz.zeroValue51
 t46:=Tryz.underlying203
 a46:=Tryz.isAgg203
 z46:=Tryz.sizeOf203
 v46:=Tryz.zeroValue203
 t51:=Tryz.underlying252
 a51:=Tryz.isAgg252
 z51:=Tryz.sizeOf252
 v51:=Tryz.zeroValue252
 t53:=Tryz.underlying114
 a53:=Tryz.isAgg114
 z53:=Tryz.sizeOf114
 v53:=Tryz.zeroValue114
 t75:=Tryz.underlying145
 a75:=Tryz.isAgg145
 z75:=Tryz.sizeOf145
 v75:=Tryz.zeroValue145
 t85:=Tryz.underlying225
 a85:=Tryz.isAgg225
 z85:=Tryz.sizeOf225
 v85:=Tryz.zeroValue225
 t127:=Tryz.underlying150
 a127:=Tryz.isAgg150
 z127:=Tryz.sizeOf150
 v127:=Tryz.zeroValue150
 t143:=Tryz.underlying310
 a143:=Tryz.isAgg310
 z143:=Tryz.sizeOf310
 v143:=Tryz.zeroValue310
 t145:=Tryz.underlying312
 a145:=Tryz.isAgg312
 z145:=Tryz.sizeOf312
 v145:=Tryz.zeroValue312
 t167:=Tryz.underlying286
 a167:=Tryz.isAgg286
 z167:=Tryz.sizeOf286
 v167:=Tryz.zeroValue286
 t168:=Tryz.underlying289
 a168:=Tryz.isAgg289
 z168:=Tryz.sizeOf289
 v168:=Tryz.zeroValue289
 t171:=Tryz.underlying247
 a171:=Tryz.isAgg247
 z171:=Tryz.sizeOf247
 v171:=Tryz.zeroValue247
 t173:=Tryz.underlying250
 a173:=Tryz.isAgg250
 z173:=Tryz.sizeOf250
 v173:=Tryz.zeroValue250
 t175:=Tryz.underlying287
 a175:=Tryz.isAgg287
 z175:=Tryz.sizeOf287
 v175:=Tryz.zeroValue287
 t210:=Tryz.underlying301
 a210:=Tryz.isAgg301
 z210:=Tryz.sizeOf301
 v210:=Tryz.zeroValue301
 t212:=Tryz.underlying278
 a212:=Tryz.isAgg278
 z212:=Tryz.sizeOf278
 v212:=Tryz.zeroValue278
 t213:=Tryz.underlying279
 a213:=Tryz.isAgg279
 z213:=Tryz.sizeOf279
 t232:=Tryz.underlying305
 a232:=Tryz.isAgg305
 z232:=Tryz.sizeOf305
 v232:=Tryz.zeroValue305
 t233:=Tryz.underlying111
 a233:=Tryz.isAgg111
 z233:=Tryz.sizeOf111
 v233:=Tryz.zeroValue111
 g15:=by kernel_rfl
 g16:=by kernel_rfl
 g17:=by kernel_rfl
 g18:=by kernel_rfl
 g19:=by kernel_rfl
 t80:=Tryz.underlying103
 a80:=Tryz.isAgg103
 z80:=Tryz.sizeOf103
 v80:=Tryz.zeroValue103
 i0:=by kernel_rfl
 i2:=by kernel_rfl
 i3:=by kernel_rfl
 i4:=by kernel_rfl
 i5:=by kernel_rfl
 i9:=by kernel_rfl
 i20:=by kernel_rfl
 i21:=by kernel_rfl
 i37:=by kernel_rfl
 i46:=by kernel_rfl
 i51:=by kernel_rfl
 i53:=by kernel_rfl
 i75:=by kernel_rfl
 i80:=by kernel_rfl
 i85:=by kernel_rfl
 i127:=by kernel_rfl
 i143:=by kernel_rfl
 i145:=by kernel_rfl
 i167:=by kernel_rfl
 i168:=by kernel_rfl
 i171:=by kernel_rfl
 i173:=by kernel_rfl
 i175:=by kernel_rfl
 i210:=by kernel_rfl
 i212:=by kernel_rfl
 i232:=by kernel_rfl
 i233:=by kernel_rfl
 m15:=by kernel_rfl
 m16:=by kernel_rfl
 m17:=by kernel_rfl
 m18:=by kernel_rfl
 m19:=by kernel_rfl
 c0:=by kernel_rfl
 c2:=by kernel_rfl
 c3:=by kernel_rfl
 c4:=by kernel_rfl
 c5:=by kernel_rfl
 c9:=by kernel_rfl
 c20:=by kernel_rfl
 c21:=by kernel_rfl
 c37:=by kernel_rfl
 c46:=by kernel_rfl
 c51:=by kernel_rfl
 c53:=by kernel_rfl
 c75:=by kernel_rfl
 c80:=by kernel_rfl
 c85:=by kernel_rfl
 c127:=by kernel_rfl
 c143:=by kernel_rfl
 c145:=by kernel_rfl
 c167:=by kernel_rfl
 c168:=by kernel_rfl
 c171:=by kernel_rfl
 c173:=by kernel_rfl
 c175:=by kernel_rfl
 c210:=by kernel_rfl
 c212:=by kernel_rfl
 c213:=by kernel_rfl
 c232:=by kernel_rfl
 c233:=by kernel_rfl }
open Go.RowKit in
theorem Tryz.strconv_ParseInt_10_at64_ok (s:ByteArray) (hmax:s.size≤9223372036854775806) (v:Int) (h:Lib.parseIntB 64 s.data.toList=.ok v) (w:World) :
  Calls Tryz.prog 180 #[.string s,.int .i64 10,.int .i64 64] w fun e w'=>e=.returned (.tuple #[.int .i64 v,.nilIface])∧(w'=w∨∃ t,w'=Lib.bytesWorld w 5 t):=Any.strconv_ParseInt_10_at64_ok Tryz.laysC174 s hmax v h w
open Go.RowKit in
theorem Tryz.strconv_ParseInt_10_at64_syntax_var (s:ByteArray) (hlim:s.size≤281474976710656) (h:Lib.parseIntB 64 s.data.toList=.«syntax») (tp:TypeId) (p:Value) (w:World) (hvar:w.var? Tryz.prog "strconv.ErrSyntax"=some #[.iface tp p]) :
  Calls Tryz.prog 180 #[.string s,.int .i64 10,.int .i64 64] w fun e w'=>∃ N,e=.returned (.tuple #[.int .i64 (0),.iface 289 (.pointer (some ⟨N,0,none⟩))])∧w.heap.size≤N∧w'.heap[N]?=some (.cells #[.string ⟨#[80,97,114,115,101,73,110,116]⟩,.string s,.iface tp p] 301 (0,0))∧Below w.heap.size w w':=Any.strconv_ParseInt_10_at64_syntax_var Tryz.laysC174 s hlim h tp p w hvar
open Go.RowKit in
theorem Tryz.strconv_ParseInt_10_at64_range_var (s:ByteArray) (hlim:s.size≤281474976710656) (h:Lib.parseIntB 64 s.data.toList=.range) (tp:TypeId) (p:Value) (w:World) (hvar:w.var? Tryz.prog "strconv.ErrRange"=some #[.iface tp p]) :
  Calls Tryz.prog 180 #[.string s,.int .i64 10,.int .i64 64] w fun e w'=>∃ N,e=.returned (.tuple #[.int .i64 (Lib.intSat 64 s.data.toList),.iface 289 (.pointer (some ⟨N,0,none⟩))])∧w.heap.size≤N∧w'.heap[N]?=some (.cells #[.string ⟨#[80,97,114,115,101,73,110,116]⟩,.string s,.iface tp p] 301 (0,0))∧Below w.heap.size w w':=Any.strconv_ParseInt_10_at64_range_var Tryz.laysC174 s hlim h tp p w hvar
def Tryz.lays219_ren:Go.Shelf.Ren:=⟨fun | 219=>177 | 217=>213 | 225=>214 | 224=>215 | 267=>216 | 266=>238 | 314=>239 | n=>n,fun | 9=>9 | 3=>3 | 4=>4 | 5=>5 | 46=>203 | 146=>253 | 51=>252 | n=>n,fun | 1=>0 | n=>n⟩
def Tryz.lays145_ren:Go.Shelf.Ren:=⟨fun | 145=>106 | 220=>138 | 219=>177 | 217=>213 | 225=>214 | 224=>215 | 267=>216 | 266=>238 | 314=>239 | n=>n,fun | 9=>9 | 4=>4 | 59=>157 | 3=>3 | 5=>5 | 46=>203 | 146=>253 | 51=>252 | n=>n,fun | 1=>0 | n=>n⟩
theorem Tryz.lays145:Go.Proofs.Lays.n145 Tryz.prog Tryz.lays145_ren:={
 mixed:=by kernel_rfl
 f145:=Tryz.func106.trans (congrArg some (by kernel_rfl))
 f217:=Tryz.func213.trans (congrArg some (by kernel_rfl))
 f219:=Tryz.func177.trans (congrArg some (by kernel_rfl))
 f220:=Tryz.func138.trans (congrArg some (by kernel_rfl))
 f224:=Tryz.func215.trans (congrArg some (by kernel_rfl))
 f225:=Tryz.func214.trans (congrArg some (by kernel_rfl))
 f266:=Tryz.func238.trans (congrArg some (by kernel_rfl))
 f267:=Tryz.func216.trans (congrArg some (by kernel_rfl))
 f314:=Tryz.func239.trans (congrArg some (by kernel_rfl))
 t3:=Tryz.underlying3
 a3:=Tryz.isAgg3
 z3:=Tryz.sizeOf3
 v3:=Tryz.zeroValue3
 t4:=Tryz.underlying4
 a4:=Tryz.isAgg4
 z4:=Tryz.sizeOf4
 v4:=Tryz.zeroValue4
 t5:=Tryz.underlying5
 a5:=Tryz.isAgg5
 z5:=Tryz.sizeOf5
 v5:=Tryz.zeroValue5
 t9:=Tryz.underlying9
 a9:=Tryz.isAgg9
 z9:=Tryz.sizeOf9
 v9:=Tryz.zeroValue9
 t46:=Tryz.underlying203
 a46:=Tryz.isAgg203
 z46:=Tryz.sizeOf203
 v46:=Tryz.zeroValue203
 t51:=Tryz.underlying252
 a51:=Tryz.isAgg252
 z51:=Tryz.sizeOf252
 v51:=Tryz.zeroValue252
 t59:=Tryz.underlying157
 a59:=Tryz.isAgg157
 z59:=Tryz.sizeOf157
 v59:=Tryz.zeroValue157
 t146:=Tryz.underlying253
 a146:=Tryz.isAgg253
 z146:=Tryz.sizeOf253
 v146:=Tryz.zeroValue253
 g1:=by kernel_rfl }
open Go.RowKit Go.Lib in
theorem Tryz.strings_Cut (s sep:ByteArray) (m:Int) (w:World) (hs:s.size<4294967281) (hm:w.cell? ⟨0,0,none⟩=some (.int .i64 m)) :
  Calls Tryz.prog 106 #[.string s,.string sep] w fun e w'=>e=.returned (.tuple #[.string ⟨(Lib.cut s.data.toList sep.data.toList).1.toArray⟩,.string ⟨(Lib.cut s.data.toList sep.data.toList).2.1.toArray⟩,.bool (Lib.cut s.data.toList sep.data.toList).2.2])∧∃ n,w'=w.drewN n:=Any.strings_Cut Tryz.lays145 s sep m w hs hm
def Tryz.laysM145_ren:Go.Shelf.Ren:=⟨fun | 145=>106 | 220=>138 | 219=>177 | 217=>213 | 225=>214 | 224=>215 | 267=>216 | 266=>238 | 314=>239 | n=>n,fun | 9=>9 | 4=>4 | 59=>157 | 3=>3 | 5=>5 | 46=>203 | 146=>253 | 51=>252 | n=>n,fun | 1=>0 | n=>n⟩
theorem Tryz.laysM145:Go.Proofs.LaysM.n145 Tryz.prog Tryz.laysM145_ren:={
 mixed:=by kernel_rfl
 f145:=Tryz.func106.trans (congrArg some (by kernel_rfl))
 f217:=Tryz.func213.trans (congrArg some (by kernel_rfl))
 f219:=Tryz.func177.trans (congrArg some (by kernel_rfl))
 f220:=Tryz.func138.trans (congrArg some (by kernel_rfl))
 f224:=Tryz.func215.trans (congrArg some (by kernel_rfl))
 f225:=Tryz.func214.trans (congrArg some (by kernel_rfl))
 f266:=Tryz.func238.trans (congrArg some (by kernel_rfl))
 f267:=Tryz.func216.trans (congrArg some (by kernel_rfl))
 f314:=Tryz.func239.trans (congrArg some (by kernel_rfl))
 t3:=Tryz.underlying3
 a3:=Tryz.isAgg3
 z3:=Tryz.sizeOf3
 v3:=Tryz.zeroValue3
 t4:=Tryz.underlying4
 a4:=Tryz.isAgg4
 z4:=Tryz.sizeOf4
 v4:=Tryz.zeroValue4
 t5:=Tryz.underlying5
 a5:=Tryz.isAgg5
 z5:=Tryz.sizeOf5
 v5:=Tryz.zeroValue5
 t9:=Tryz.underlying9
 a9:=Tryz.isAgg9
 z9:=Tryz.sizeOf9
 v9:=Tryz.zeroValue9
 t46:=Tryz.underlying203
 a46:=Tryz.isAgg203
 z46:=Tryz.sizeOf203
 v46:=Tryz.zeroValue203
 t51:=Tryz.underlying252
 a51:=Tryz.isAgg252
 z51:=Tryz.sizeOf252
 v51:=Tryz.zeroValue252
 t59:=Tryz.underlying157
 a59:=Tryz.isAgg157
 z59:=Tryz.sizeOf157
 v59:=Tryz.zeroValue157
 t146:=Tryz.underlying253
 a146:=Tryz.isAgg253
 z146:=Tryz.sizeOf253
 v146:=Tryz.zeroValue253
 g1:=by kernel_rfl
 i3:=by kernel_rfl
 i4:=by kernel_rfl
 i5:=by kernel_rfl
 i9:=by kernel_rfl
 i46:=by kernel_rfl
 i51:=by kernel_rfl
 i59:=by kernel_rfl
 i146:=by kernel_rfl
 m1:=by kernel_rfl
 s1_3:=fun w h=>Go.Proofs.cell_of_shapedOpen_int (zero:=#[.int .i64 0]) (t:=3) h (of_decide_eq_true (by kernel_rfl)) (by kernel_rfl) rfl (by kernel_rfl) (by kernel_rfl) Tryz.underlying3 }
def Tryz.lays212_ren:Go.Shelf.Ren:=⟨fun | 212=>171 | 263=>208 | 264=>209 | n=>n,fun | 46=>203 | 51=>252 | 146=>253 | 53=>114 | 148=>255 | n=>n,fun | n=>n⟩
theorem Tryz.lays212:Go.Proofs.Lays.n212 Tryz.prog Tryz.lays212_ren:={
 mixed:=by kernel_rfl
 f212:=Tryz.func171.trans (congrArg some (by kernel_rfl))
 f263:=Tryz.func208.trans (congrArg some (by kernel_rfl))
 f264:=Tryz.func209.trans (congrArg some (by kernel_rfl))
 t46:=Tryz.underlying203
 a46:=Tryz.isAgg203
 z46:=Tryz.sizeOf203
 v46:=Tryz.zeroValue203
 t51:=Tryz.underlying252
 a51:=Tryz.isAgg252
 z51:=Tryz.sizeOf252
 v51:=Tryz.zeroValue252
 t53:=Tryz.underlying114
 a53:=Tryz.isAgg114
 z53:=Tryz.sizeOf114
 v53:=Tryz.zeroValue114
 t146:=Tryz.underlying253
 a146:=Tryz.isAgg253
 z146:=Tryz.sizeOf253
 v146:=Tryz.zeroValue253
 t148:=Tryz.underlying255
 a148:=Tryz.isAgg255
 z148:=Tryz.sizeOf255
 v148:=Tryz.zeroValue255 }
open Go.RowKit Go.Lib in
theorem Tryz.bits_Mul (x y:Nat) (hx:x<18446744073709551616) (hy:y<18446744073709551616) (w:World) :
  Calls Tryz.prog 171 #[.int .u64 x,.int .u64 y] w fun e w'=>e=.returned (.tuple #[.int .u64 ((x * y / 18446744073709551616:Nat):Int),.int .u64 ((x * y % 18446744073709551616:Nat):Int)])∧w'=w:=Any.bits_Mul Tryz.lays212 x y hx hy w
end Go.Proofs
