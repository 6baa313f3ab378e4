/-
  No cell of these rows narrows 'for every input' (looked for: loops, veiled, ifaces, maps, wideKeys, modest, calm, conditions, laid).
  DERIVED. THE GIVEN ROWS OF THIS SEAT. 9 by the template 'for every input the law returns true; each argument reads behind the call as it read before'; 0 by the template 'total and deterministic' (their statements: YtclfiaemjdflbaaTotals.lean).
  GIVEN WITH THE SEED: the statements are not yours to turn. If you find one false, say at which input.
  Laid BY PROGRAM, IN A SANDBOX (cutbox-rows.mjs): the forced cells as the released guide's own fill.sh prints them over the translation 61523cebf6e823ea… (all of the seat's roots in one cut). By AI agents, Wed Nov 11 2026. No macro, syntax, notation, axiom, sorry.
-/
import Derived.Test.YtclfiaemjdflbaaChecked
import GoSem.Claim
import GoSem.ClaimJoined
import GoSem.ClaimMapViews
import Derived.JoinedTies
import Derived.KernelRfl
namespace Go.Proofs.Ytclfiaemjdflbaa
/- THE CELL 'sum', in the pinned program and in every row, IS THE sha256 OF THE DUMP (.gsa) THAT YtclfiaemjdflbaaProg.lean LOADS. Nothing in Lean hashes anything: it is a label: what it is worth is what the hold of that sum in a sandbox is worth. -/
noncomputable def Try.pinned : Pinned := { name := "ytclfiaemjdflbaa", sum := "61523cebf6e823ead30fd8bfe45d5e5cd714f7cec7ec688709ee59f4999c0b18", checked := Try.checked }
namespace Rows
def none {H : Type} : Left H := { results := [], args := [] }

/-- 'cutroomlaw01.RationalOf': WHATEVER THE INPUT: true; the input reads as it did. -/
def rationalOfSpec : ChangeSpec := { name := "rationalOf", fn := fun _ => fun
  | [d1, d2] => { results := [.lit (.bool true)], args := [d1, d2] }
  | _ => none }
def rationalOfRow : OpenClaim := { program := "ytclfiaemjdflbaa", sum := "61523cebf6e823ead30fd8bfe45d5e5cd714f7cec7ec688709ee59f4999c0b18", func := "cutroom/cutroomlaw01.RationalOf", spec := "rationalOf", apart := false }
def RationalOfSaid : Prop := rationalOfRow.holds Try.pinned (OpenSpec.ofChange rationalOfSpec)

/-- ITS FALSE NEIGHBOUR: 'it returns false'. Refute it at one input. -/
def rationalOfWrong : ChangeSpec := { name := "rationalOf", fn := fun _ => fun
  | [d1, d2] => { results := [.lit (.bool false)], args := [d1, d2] }
  | _ => none }
def RationalOfWrongFalsely : Prop := rationalOfRow.holds Try.pinned (OpenSpec.ofChange rationalOfWrong)

/-- 'cutroomlaw01.RationalValid': WHATEVER THE INPUT: true; the input reads as it did. -/
def rationalValidSpec : ChangeSpec := { name := "rationalValid", fn := fun _ => fun
  | [d] => { results := [.lit (.bool true)], args := [d] }
  | _ => none }
def rationalValidRow : OpenClaim := { program := "ytclfiaemjdflbaa", sum := "61523cebf6e823ead30fd8bfe45d5e5cd714f7cec7ec688709ee59f4999c0b18", func := "cutroom/cutroomlaw01.RationalValid", spec := "rationalValid", apart := false }
def RationalValidSaid : Prop := rationalValidRow.holds Try.pinned (OpenSpec.ofChange rationalValidSpec)

/-- ITS FALSE NEIGHBOUR: 'it returns false'. Refute it at one input. -/
def rationalValidWrong : ChangeSpec := { name := "rationalValid", fn := fun _ => fun
  | [d] => { results := [.lit (.bool false)], args := [d] }
  | _ => none }
def RationalValidWrongFalsely : Prop := rationalValidRow.holds Try.pinned (OpenSpec.ofChange rationalValidWrong)

/-- 'cutroomlaw01.RationalRounds': WHATEVER THE INPUT: true; the input reads as it did. -/
def rationalRoundsSpec : ChangeSpec := { name := "rationalRounds", fn := fun _ => fun
  | [d] => { results := [.lit (.bool true)], args := [d] }
  | _ => none }
def rationalRoundsRow : OpenClaim := { program := "ytclfiaemjdflbaa", sum := "61523cebf6e823ead30fd8bfe45d5e5cd714f7cec7ec688709ee59f4999c0b18", func := "cutroom/cutroomlaw01.RationalRounds", spec := "rationalRounds", apart := false }
def RationalRoundsSaid : Prop := rationalRoundsRow.holds Try.pinned (OpenSpec.ofChange rationalRoundsSpec)

/-- ITS FALSE NEIGHBOUR: 'it returns false'. Refute it at one input. -/
def rationalRoundsWrong : ChangeSpec := { name := "rationalRounds", fn := fun _ => fun
  | [d] => { results := [.lit (.bool false)], args := [d] }
  | _ => none }
def RationalRoundsWrongFalsely : Prop := rationalRoundsRow.holds Try.pinned (OpenSpec.ofChange rationalRoundsWrong)

/-- 'cutroomlaw01.RationalMulDiv': WHATEVER THE INPUT: true; the input reads as it did. -/
def rationalMulDivSpec : ChangeSpec := { name := "rationalMulDiv", fn := fun _ => fun
  | [d1, d2, d3] => { results := [.lit (.bool true)], args := [d1, d2, d3] }
  | _ => none }
def rationalMulDivRow : OpenClaim := { program := "ytclfiaemjdflbaa", sum := "61523cebf6e823ead30fd8bfe45d5e5cd714f7cec7ec688709ee59f4999c0b18", func := "cutroom/cutroomlaw01.RationalMulDiv", spec := "rationalMulDiv", named := ["math/bits.divideError", "math/bits.overflowError"], apart := false }
def RationalMulDivSaid : Prop := rationalMulDivRow.holds Try.pinned (OpenSpec.ofChange rationalMulDivSpec)

/-- ITS FALSE NEIGHBOUR: 'it returns false'. Refute it at one input. -/
def rationalMulDivWrong : ChangeSpec := { name := "rationalMulDiv", fn := fun _ => fun
  | [d1, d2, d3] => { results := [.lit (.bool false)], args := [d1, d2, d3] }
  | _ => none }
def RationalMulDivWrongFalsely : Prop := rationalMulDivRow.holds Try.pinned (OpenSpec.ofChange rationalMulDivWrong)

/-- 'cutroomlaw01.RationalPosition': WHATEVER THE INPUT: true; the input reads as it did. -/
def rationalPositionSpec : ChangeSpec := { name := "rationalPosition", fn := fun _ => fun
  | [d1, d2, d3] => { results := [.lit (.bool true)], args := [d1, d2, d3] }
  | _ => none }
def rationalPositionRow : OpenClaim := { program := "ytclfiaemjdflbaa", sum := "61523cebf6e823ead30fd8bfe45d5e5cd714f7cec7ec688709ee59f4999c0b18", func := "cutroom/cutroomlaw01.RationalPosition", spec := "rationalPosition", inPlace := ["math/bits.Add64", "math/bits.Sub64"], named := ["math/bits.divideError", "math/bits.overflowError"], apart := false }
def RationalPositionSaid : Prop := rationalPositionRow.holds Try.pinned (OpenSpec.ofChange rationalPositionSpec)

/-- ITS FALSE NEIGHBOUR: 'it returns false'. Refute it at one input. -/
def rationalPositionWrong : ChangeSpec := { name := "rationalPosition", fn := fun _ => fun
  | [d1, d2, d3] => { results := [.lit (.bool false)], args := [d1, d2, d3] }
  | _ => none }
def RationalPositionWrongFalsely : Prop := rationalPositionRow.holds Try.pinned (OpenSpec.ofChange rationalPositionWrong)

/-- 'cutroomlaw01.RationalNearest': WHATEVER THE INPUT: true; the input reads as it did. -/
def rationalNearestSpec : ChangeSpec := { name := "rationalNearest", fn := fun _ => fun
  | [d1, d2, d3, d4] => { results := [.lit (.bool true)], args := [d1, d2, d3, d4] }
  | _ => none }
def rationalNearestRow : OpenClaim := { program := "ytclfiaemjdflbaa", sum := "61523cebf6e823ead30fd8bfe45d5e5cd714f7cec7ec688709ee59f4999c0b18", func := "cutroom/cutroomlaw01.RationalNearest", spec := "rationalNearest", inPlace := ["math/bits.Add64", "math/bits.Sub64"], named := ["math/bits.divideError", "math/bits.overflowError"], apart := false }
def RationalNearestSaid : Prop := rationalNearestRow.holds Try.pinned (OpenSpec.ofChange rationalNearestSpec)

/-- ITS FALSE NEIGHBOUR: 'it returns false'. Refute it at one input. -/
def rationalNearestWrong : ChangeSpec := { name := "rationalNearest", fn := fun _ => fun
  | [d1, d2, d3, d4] => { results := [.lit (.bool false)], args := [d1, d2, d3, d4] }
  | _ => none }
def RationalNearestWrongFalsely : Prop := rationalNearestRow.holds Try.pinned (OpenSpec.ofChange rationalNearestWrong)

/-- 'cutroomlaw01.RationalLong': WHATEVER THE INPUT: true; the input reads as it did. -/
def rationalLongSpec : ChangeSpec := { name := "rationalLong", fn := fun _ => fun
  | [d] => { results := [.lit (.bool true)], args := [d] }
  | _ => none }
def rationalLongRow : OpenClaim := { program := "ytclfiaemjdflbaa", sum := "61523cebf6e823ead30fd8bfe45d5e5cd714f7cec7ec688709ee59f4999c0b18", func := "cutroom/cutroomlaw01.RationalLong", spec := "rationalLong", inPlace := ["math/bits.Add64", "math/bits.Sub64"], named := ["math/bits.divideError", "math/bits.overflowError"], apart := false }
def RationalLongSaid : Prop := rationalLongRow.holds Try.pinned (OpenSpec.ofChange rationalLongSpec)

/-- ITS FALSE NEIGHBOUR: 'it returns false'. Refute it at one input. -/
def rationalLongWrong : ChangeSpec := { name := "rationalLong", fn := fun _ => fun
  | [d] => { results := [.lit (.bool false)], args := [d] }
  | _ => none }
def RationalLongWrongFalsely : Prop := rationalLongRow.holds Try.pinned (OpenSpec.ofChange rationalLongWrong)

/-- 'cutroomlaw01.RationalOps': WHATEVER THE INPUT: true; the input reads as it did. -/
def rationalOpsSpec : ChangeSpec := { name := "rationalOps", fn := fun _ => fun
  | [d1, d2] => { results := [.lit (.bool true)], args := [d1, d2] }
  | _ => none }
def rationalOpsRow : OpenClaim := { program := "ytclfiaemjdflbaa", sum := "61523cebf6e823ead30fd8bfe45d5e5cd714f7cec7ec688709ee59f4999c0b18", func := "cutroom/cutroomlaw01.RationalOps", spec := "rationalOps", inPlace := ["math/bits.Add64", "math/bits.Sub64"], named := ["math/bits.divideError", "math/bits.overflowError"], apart := false }
def RationalOpsSaid : Prop := rationalOpsRow.holds Try.pinned (OpenSpec.ofChange rationalOpsSpec)

/-- ITS FALSE NEIGHBOUR: 'it returns false'. Refute it at one input. -/
def rationalOpsWrong : ChangeSpec := { name := "rationalOps", fn := fun _ => fun
  | [d1, d2] => { results := [.lit (.bool false)], args := [d1, d2] }
  | _ => none }
def RationalOpsWrongFalsely : Prop := rationalOpsRow.holds Try.pinned (OpenSpec.ofChange rationalOpsWrong)

/-- 'cutroomlaw01.RationalField': WHATEVER THE INPUT: true; the input reads as it did. -/
def rationalFieldSpec : ChangeSpec := { name := "rationalField", fn := fun _ => fun
  | [d1, d2, d3] => { results := [.lit (.bool true)], args := [d1, d2, d3] }
  | _ => none }
def rationalFieldRow : OpenClaim := { program := "ytclfiaemjdflbaa", sum := "61523cebf6e823ead30fd8bfe45d5e5cd714f7cec7ec688709ee59f4999c0b18", func := "cutroom/cutroomlaw01.RationalField", spec := "rationalField", inPlace := ["math/bits.Add64", "math/bits.Sub64"], named := ["math/bits.divideError", "math/bits.overflowError"], apart := false }
def RationalFieldSaid : Prop := rationalFieldRow.holds Try.pinned (OpenSpec.ofChange rationalFieldSpec)

/-- ITS FALSE NEIGHBOUR: 'it returns false'. Refute it at one input. -/
def rationalFieldWrong : ChangeSpec := { name := "rationalField", fn := fun _ => fun
  | [d1, d2, d3] => { results := [.lit (.bool false)], args := [d1, d2, d3] }
  | _ => none }
def RationalFieldWrongFalsely : Prop := rationalFieldRow.holds Try.pinned (OpenSpec.ofChange rationalFieldWrong)

/- THE SECOND FORM. 'bulk': how many values and letters a reading holds, each counted each time it is reached (what is shared counts as often as it is met; a slice's spare places count too). A statement '..UptoSaid' is the law's where the arguments, and the package variables that the reading takes, are together of bulk at most 1048576: NARROWER than '..Said'. Prove '..Said' where nothing that the law and all that it calls make is longer than what came in: it says more and counts as full. Else prove '..UptoSaid'. A law counts once. -/
mutual
def uptoBulk {H : Type} : DataW H → Nat
  | .lit (.string bytes) => bytes.length + 1
  | .lit _ => 1
  | .nil => 1
  | .ptr d => uptoBulk d + 1
  | .slice elems spare => uptoBulkAll elems + uptoBulkAll spare + 1
  | .agg parts => uptoBulkAll parts + 1
  | .iface _ d => uptoBulk d + 1
  | .map entries => uptoBulkEntries entries + 1
  | .held _ => 1
def uptoBulkAll {H : Type} : List (DataW H) → Nat
  | [] => 0
  | d :: r => uptoBulk d + uptoBulkAll r
def uptoBulkEntries {H : Type} : List (Lit × DataW H) → Nat
  | [] => 0
  | x :: r => uptoBulkEntry x + uptoBulkEntries r
def uptoBulkEntry {H : Type} : Lit × DataW H → Nat
  | (.string bytes, d) => bytes.length + uptoBulk d + 1
  | (_, d) => uptoBulk d + 1
 end
def uptoSmall : (H : Type) → List (DataW H) → Bool := fun _ ds => decide (uptoBulkAll ds ≤ 1048576)
def OpenSpec.upto (s : _root_.Go.ChangeSpec) : _root_.Go.OpenSpec := { _root_.Go.OpenSpec.ofChange s with cond := some uptoSmall }

/-- 'cutroomlaw01.RationalOf', WHERE WHAT IT READS IS OF BULK AT MOST 1048576: true; the input reads as it did. -/
def rationalOfUptoRow : OpenClaim := { program := "ytclfiaemjdflbaa", sum := "61523cebf6e823ead30fd8bfe45d5e5cd714f7cec7ec688709ee59f4999c0b18", func := "cutroom/cutroomlaw01.RationalOf", spec := "rationalOf", apart := false, narrowed := true }
def RationalOfUptoSaid : Prop := rationalOfUptoRow.holds Try.pinned (OpenSpec.upto rationalOfSpec)

/-- 'cutroomlaw01.RationalValid', WHERE WHAT IT READS IS OF BULK AT MOST 1048576: true; the input reads as it did. -/
def rationalValidUptoRow : OpenClaim := { program := "ytclfiaemjdflbaa", sum := "61523cebf6e823ead30fd8bfe45d5e5cd714f7cec7ec688709ee59f4999c0b18", func := "cutroom/cutroomlaw01.RationalValid", spec := "rationalValid", apart := false, narrowed := true }
def RationalValidUptoSaid : Prop := rationalValidUptoRow.holds Try.pinned (OpenSpec.upto rationalValidSpec)

/-- 'cutroomlaw01.RationalRounds', WHERE WHAT IT READS IS OF BULK AT MOST 1048576: true; the input reads as it did. -/
def rationalRoundsUptoRow : OpenClaim := { program := "ytclfiaemjdflbaa", sum := "61523cebf6e823ead30fd8bfe45d5e5cd714f7cec7ec688709ee59f4999c0b18", func := "cutroom/cutroomlaw01.RationalRounds", spec := "rationalRounds", apart := false, narrowed := true }
def RationalRoundsUptoSaid : Prop := rationalRoundsUptoRow.holds Try.pinned (OpenSpec.upto rationalRoundsSpec)

/-- 'cutroomlaw01.RationalMulDiv', WHERE WHAT IT READS IS OF BULK AT MOST 1048576: true; the input reads as it did. -/
def rationalMulDivUptoRow : OpenClaim := { program := "ytclfiaemjdflbaa", sum := "61523cebf6e823ead30fd8bfe45d5e5cd714f7cec7ec688709ee59f4999c0b18", func := "cutroom/cutroomlaw01.RationalMulDiv", spec := "rationalMulDiv", named := ["math/bits.divideError", "math/bits.overflowError"], apart := false, narrowed := true }
def RationalMulDivUptoSaid : Prop := rationalMulDivUptoRow.holds Try.pinned (OpenSpec.upto rationalMulDivSpec)

/-- 'cutroomlaw01.RationalPosition', WHERE WHAT IT READS IS OF BULK AT MOST 1048576: true; the input reads as it did. -/
def rationalPositionUptoRow : OpenClaim := { program := "ytclfiaemjdflbaa", sum := "61523cebf6e823ead30fd8bfe45d5e5cd714f7cec7ec688709ee59f4999c0b18", func := "cutroom/cutroomlaw01.RationalPosition", spec := "rationalPosition", inPlace := ["math/bits.Add64", "math/bits.Sub64"], named := ["math/bits.divideError", "math/bits.overflowError"], apart := false, narrowed := true }
def RationalPositionUptoSaid : Prop := rationalPositionUptoRow.holds Try.pinned (OpenSpec.upto rationalPositionSpec)

/-- 'cutroomlaw01.RationalNearest', WHERE WHAT IT READS IS OF BULK AT MOST 1048576: true; the input reads as it did. -/
def rationalNearestUptoRow : OpenClaim := { program := "ytclfiaemjdflbaa", sum := "61523cebf6e823ead30fd8bfe45d5e5cd714f7cec7ec688709ee59f4999c0b18", func := "cutroom/cutroomlaw01.RationalNearest", spec := "rationalNearest", inPlace := ["math/bits.Add64", "math/bits.Sub64"], named := ["math/bits.divideError", "math/bits.overflowError"], apart := false, narrowed := true }
def RationalNearestUptoSaid : Prop := rationalNearestUptoRow.holds Try.pinned (OpenSpec.upto rationalNearestSpec)

/-- 'cutroomlaw01.RationalLong', WHERE WHAT IT READS IS OF BULK AT MOST 1048576: true; the input reads as it did. -/
def rationalLongUptoRow : OpenClaim := { program := "ytclfiaemjdflbaa", sum := "61523cebf6e823ead30fd8bfe45d5e5cd714f7cec7ec688709ee59f4999c0b18", func := "cutroom/cutroomlaw01.RationalLong", spec := "rationalLong", inPlace := ["math/bits.Add64", "math/bits.Sub64"], named := ["math/bits.divideError", "math/bits.overflowError"], apart := false, narrowed := true }
def RationalLongUptoSaid : Prop := rationalLongUptoRow.holds Try.pinned (OpenSpec.upto rationalLongSpec)

/-- 'cutroomlaw01.RationalOps', WHERE WHAT IT READS IS OF BULK AT MOST 1048576: true; the input reads as it did. -/
def rationalOpsUptoRow : OpenClaim := { program := "ytclfiaemjdflbaa", sum := "61523cebf6e823ead30fd8bfe45d5e5cd714f7cec7ec688709ee59f4999c0b18", func := "cutroom/cutroomlaw01.RationalOps", spec := "rationalOps", inPlace := ["math/bits.Add64", "math/bits.Sub64"], named := ["math/bits.divideError", "math/bits.overflowError"], apart := false, narrowed := true }
def RationalOpsUptoSaid : Prop := rationalOpsUptoRow.holds Try.pinned (OpenSpec.upto rationalOpsSpec)

/-- 'cutroomlaw01.RationalField', WHERE WHAT IT READS IS OF BULK AT MOST 1048576: true; the input reads as it did. -/
def rationalFieldUptoRow : OpenClaim := { program := "ytclfiaemjdflbaa", sum := "61523cebf6e823ead30fd8bfe45d5e5cd714f7cec7ec688709ee59f4999c0b18", func := "cutroom/cutroomlaw01.RationalField", spec := "rationalField", inPlace := ["math/bits.Add64", "math/bits.Sub64"], named := ["math/bits.divideError", "math/bits.overflowError"], apart := false, narrowed := true }
def RationalFieldUptoSaid : Prop := rationalFieldUptoRow.holds Try.pinned (OpenSpec.upto rationalFieldSpec)

end Rows
end Go.Proofs.Ytclfiaemjdflbaa
