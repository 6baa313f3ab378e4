/-
  DERIVED: THE SHELF's CONTRACTS AT THIS DUMP, IN PLAIN WORDS (tools/lay-plain.mjs out of 'TrydSort.lean', which tools/lay-shelf.mjs wrote): THE SAME DECLARATIONS UNDER THE SAME NAMES: 'import', 'namespace', 'open', 'def', 'theorem' AND NOTHING ELSE: no command of the shelf's: FOR A HAND-IN. Each laying: the table of numbers ('.._ren') and one theorem, a field a fact of the dump's own or the kernel's comparison; each contract: ONE APPLICATION.
-/
import Derived.Shelf.SlSortCmp.InsertionK
import Derived.Test.YtckmebfgianeoaaDoorProg
namespace Go.Proofs
open Go.Shelf
def Tryd.insSort_ren : Go.Shelf.Ren := ⟨fun | 20 => 102 | n => n, fun | 24 => 66 | 22 => 22 | 3 => 3 | 25 => 99 | 4 => 4 | 0 => 0 | n => n, fun | n => n⟩
theorem Tryd.insSort : Go.Proofs.SlLaysF0.n20 Tryd.prog Tryd.insSort_ren := {
  mixed := by kernel_rfl
  f20 := ⟨Tryd.f102.name, by decide, Tryd.func102.trans (congrArg some (by kernel_rfl))⟩
  t0 := Tryd.underlying0
  a0 := Tryd.isAgg0
  z0 := Tryd.sizeOf0
  v0 := Tryd.zeroValue0
  t3 := Tryd.underlying3
  a3 := Tryd.isAgg3
  z3 := Tryd.sizeOf3
  v3 := Tryd.zeroValue3
  t4 := Tryd.underlying4
  a4 := Tryd.isAgg4
  z4 := Tryd.sizeOf4
  v4 := Tryd.zeroValue4
  t22 := Tryd.underlying22
  a22 := Tryd.isAgg22
  z22 := Tryd.sizeOf22
  v22 := Tryd.zeroValue22
  t25 := Tryd.underlying99
  a25 := Tryd.isAgg99
  z25 := Tryd.sizeOf99
  v25 := Tryd.zeroValue99 }
end Go.Proofs
