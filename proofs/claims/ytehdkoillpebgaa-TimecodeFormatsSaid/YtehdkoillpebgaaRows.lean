/-
  No cell of these rows narrows 'for every input' (looked for: loops, veiled, ifaces, maps, wideKeys, modest, calm, conditions, laid).
  DERIVED. THE GIVEN ROWS OF THIS SEAT. 14 by the template 'for every input the law returns true; each argument reads behind the call as it read before'; 0 by the template 'total and deterministic' (their statements: YtehdkoillpebgaaTotals.lean).
  GIVEN WITH THE SEED: the statements are not yours to turn. If you find one false, say at which input.
  Laid BY PROGRAM, IN A SANDBOX (cutbox-rows.mjs): the forced cells as the released guide's own fill.sh prints them over the translation 0e956dda71c8c9c8… (all of the seat's roots in one cut). By AI agents, Wed Nov 11 2026. No macro, syntax, notation, axiom, sorry.
-/
import Derived.Test.YtehdkoillpebgaaChecked
import GoSem.Claim
import GoSem.ClaimJoined
import GoSem.ClaimMapViews
import Derived.JoinedTies
import Derived.KernelRfl
namespace Go.Proofs.Ytehdkoillpebgaa
/- THE CELL 'sum', in the pinned program and in every row, IS THE sha256 OF THE DUMP (.gsa) THAT YtehdkoillpebgaaProg.lean LOADS. Nothing in Lean hashes anything: it is a label: what it is worth is what the hold of that sum in a sandbox is worth. -/
noncomputable def Try.pinned : Pinned := { name := "ytehdkoillpebgaa", sum := "0e956dda71c8c9c84fcced1387a51076590167b0b79d57568273c95746f70b8a", checked := Try.checked }
namespace Rows
def none {H : Type} : Left H := { results := [], args := [] }

/-- 'cutroomlaw19.TimecodeBases': WHATEVER THE INPUT: true; the input reads as it did. -/
def timecodeBasesSpec : ChangeSpec := { name := "timecodeBases", fn := fun _ => fun
  | [d1, d2] => { results := [.lit (.bool true)], args := [d1, d2] }
  | _ => none }
def timecodeBasesRow : OpenClaim := { program := "ytehdkoillpebgaa", sum := "0e956dda71c8c9c84fcced1387a51076590167b0b79d57568273c95746f70b8a", func := "cutroom/cutroomlaw19.TimecodeBases", spec := "timecodeBases", apart := false }
def TimecodeBasesSaid : Prop := timecodeBasesRow.holds Try.pinned (OpenSpec.ofChange timecodeBasesSpec)

/-- ITS FALSE NEIGHBOUR: 'it returns false'. Refute it at one input. -/
def timecodeBasesWrong : ChangeSpec := { name := "timecodeBases", fn := fun _ => fun
  | [d1, d2] => { results := [.lit (.bool false)], args := [d1, d2] }
  | _ => none }
def TimecodeBasesWrongFalsely : Prop := timecodeBasesRow.holds Try.pinned (OpenSpec.ofChange timecodeBasesWrong)

/-- 'cutroomlaw19.TimecodeDays': WHATEVER THE INPUT: true; the input reads as it did. -/
def timecodeDaysSpec : ChangeSpec := { name := "timecodeDays", fn := fun _ => fun
  | [d1, d2] => { results := [.lit (.bool true)], args := [d1, d2] }
  | _ => none }
def timecodeDaysRow : OpenClaim := { program := "ytehdkoillpebgaa", sum := "0e956dda71c8c9c84fcced1387a51076590167b0b79d57568273c95746f70b8a", func := "cutroom/cutroomlaw19.TimecodeDays", spec := "timecodeDays", apart := false }
def TimecodeDaysSaid : Prop := timecodeDaysRow.holds Try.pinned (OpenSpec.ofChange timecodeDaysSpec)

/-- ITS FALSE NEIGHBOUR: 'it returns false'. Refute it at one input. -/
def timecodeDaysWrong : ChangeSpec := { name := "timecodeDays", fn := fun _ => fun
  | [d1, d2] => { results := [.lit (.bool false)], args := [d1, d2] }
  | _ => none }
def TimecodeDaysWrongFalsely : Prop := timecodeDaysRow.holds Try.pinned (OpenSpec.ofChange timecodeDaysWrong)

/-- 'cutroomlaw19.TimecodeLabels': WHATEVER THE INPUT: true; the input reads as it did. -/
def timecodeLabelsSpec : ChangeSpec := { name := "timecodeLabels", fn := fun _ => fun
  | [d1, d2, d3] => { results := [.lit (.bool true)], args := [d1, d2, d3] }
  | _ => none }
def timecodeLabelsRow : OpenClaim := { program := "ytehdkoillpebgaa", sum := "0e956dda71c8c9c84fcced1387a51076590167b0b79d57568273c95746f70b8a", func := "cutroom/cutroomlaw19.TimecodeLabels", spec := "timecodeLabels", apart := false }
def TimecodeLabelsSaid : Prop := timecodeLabelsRow.holds Try.pinned (OpenSpec.ofChange timecodeLabelsSpec)

/-- ITS FALSE NEIGHBOUR: 'it returns false'. Refute it at one input. -/
def timecodeLabelsWrong : ChangeSpec := { name := "timecodeLabels", fn := fun _ => fun
  | [d1, d2, d3] => { results := [.lit (.bool false)], args := [d1, d2, d3] }
  | _ => none }
def TimecodeLabelsWrongFalsely : Prop := timecodeLabelsRow.holds Try.pinned (OpenSpec.ofChange timecodeLabelsWrong)

/-- 'cutroomlaw19.TimecodeNumbers': WHATEVER THE INPUT: true; the input reads as it did. -/
def timecodeNumbersSpec : ChangeSpec := { name := "timecodeNumbers", fn := fun _ => fun
  | [d] => { results := [.lit (.bool true)], args := [d] }
  | _ => none }
def timecodeNumbersRow : OpenClaim := { program := "ytehdkoillpebgaa", sum := "0e956dda71c8c9c84fcced1387a51076590167b0b79d57568273c95746f70b8a", func := "cutroom/cutroomlaw19.TimecodeNumbers", spec := "timecodeNumbers", apart := false }
def TimecodeNumbersSaid : Prop := timecodeNumbersRow.holds Try.pinned (OpenSpec.ofChange timecodeNumbersSpec)

/-- ITS FALSE NEIGHBOUR: 'it returns false'. Refute it at one input. -/
def timecodeNumbersWrong : ChangeSpec := { name := "timecodeNumbers", fn := fun _ => fun
  | [d] => { results := [.lit (.bool false)], args := [d] }
  | _ => none }
def TimecodeNumbersWrongFalsely : Prop := timecodeNumbersRow.holds Try.pinned (OpenSpec.ofChange timecodeNumbersWrong)

/-- 'cutroomlaw19.TimecodeInverse': WHATEVER THE INPUT: true; the input reads as it did. -/
def timecodeInverseSpec : ChangeSpec := { name := "timecodeInverse", fn := fun _ => fun
  | [d1, d2, d3, d4] => { results := [.lit (.bool true)], args := [d1, d2, d3, d4] }
  | _ => none }
def timecodeInverseRow : OpenClaim := { program := "ytehdkoillpebgaa", sum := "0e956dda71c8c9c84fcced1387a51076590167b0b79d57568273c95746f70b8a", func := "cutroom/cutroomlaw19.TimecodeInverse", spec := "timecodeInverse", apart := false }
def TimecodeInverseSaid : Prop := timecodeInverseRow.holds Try.pinned (OpenSpec.ofChange timecodeInverseSpec)

/-- ITS FALSE NEIGHBOUR: 'it returns false'. Refute it at one input. -/
def timecodeInverseWrong : ChangeSpec := { name := "timecodeInverse", fn := fun _ => fun
  | [d1, d2, d3, d4] => { results := [.lit (.bool false)], args := [d1, d2, d3, d4] }
  | _ => none }
def TimecodeInverseWrongFalsely : Prop := timecodeInverseRow.holds Try.pinned (OpenSpec.ofChange timecodeInverseWrong)

/-- 'cutroomlaw19.TimecodeOrder': WHATEVER THE INPUT: true; the input reads as it did. -/
def timecodeOrderSpec : ChangeSpec := { name := "timecodeOrder", fn := fun _ => fun
  | [d1, d2, d3] => { results := [.lit (.bool true)], args := [d1, d2, d3] }
  | _ => none }
def timecodeOrderRow : OpenClaim := { program := "ytehdkoillpebgaa", sum := "0e956dda71c8c9c84fcced1387a51076590167b0b79d57568273c95746f70b8a", func := "cutroom/cutroomlaw19.TimecodeOrder", spec := "timecodeOrder", apart := false }
def TimecodeOrderSaid : Prop := timecodeOrderRow.holds Try.pinned (OpenSpec.ofChange timecodeOrderSpec)

/-- ITS FALSE NEIGHBOUR: 'it returns false'. Refute it at one input. -/
def timecodeOrderWrong : ChangeSpec := { name := "timecodeOrder", fn := fun _ => fun
  | [d1, d2, d3] => { results := [.lit (.bool false)], args := [d1, d2, d3] }
  | _ => none }
def TimecodeOrderWrongFalsely : Prop := timecodeOrderRow.holds Try.pinned (OpenSpec.ofChange timecodeOrderWrong)

/-- 'cutroomlaw19.TimecodeDropped': WHATEVER THE INPUT: true; the input reads as it did. -/
def timecodeDroppedSpec : ChangeSpec := { name := "timecodeDropped", fn := fun _ => fun
  | [d1, d2, d3, d4, d5] => { results := [.lit (.bool true)], args := [d1, d2, d3, d4, d5] }
  | _ => none }
def timecodeDroppedRow : OpenClaim := { program := "ytehdkoillpebgaa", sum := "0e956dda71c8c9c84fcced1387a51076590167b0b79d57568273c95746f70b8a", func := "cutroom/cutroomlaw19.TimecodeDropped", spec := "timecodeDropped", apart := false }
def TimecodeDroppedSaid : Prop := timecodeDroppedRow.holds Try.pinned (OpenSpec.ofChange timecodeDroppedSpec)

/-- ITS FALSE NEIGHBOUR: 'it returns false'. Refute it at one input. -/
def timecodeDroppedWrong : ChangeSpec := { name := "timecodeDropped", fn := fun _ => fun
  | [d1, d2, d3, d4, d5] => { results := [.lit (.bool false)], args := [d1, d2, d3, d4, d5] }
  | _ => none }
def TimecodeDroppedWrongFalsely : Prop := timecodeDroppedRow.holds Try.pinned (OpenSpec.ofChange timecodeDroppedWrong)

/-- 'cutroomlaw19.TimecodeTenMinutes': WHATEVER THE INPUT: true; the input reads as it did. -/
def timecodeTenMinutesSpec : ChangeSpec := { name := "timecodeTenMinutes", fn := fun _ => fun
  | [d1, d2, d3] => { results := [.lit (.bool true)], args := [d1, d2, d3] }
  | _ => none }
def timecodeTenMinutesRow : OpenClaim := { program := "ytehdkoillpebgaa", sum := "0e956dda71c8c9c84fcced1387a51076590167b0b79d57568273c95746f70b8a", func := "cutroom/cutroomlaw19.TimecodeTenMinutes", spec := "timecodeTenMinutes", apart := false }
def TimecodeTenMinutesSaid : Prop := timecodeTenMinutesRow.holds Try.pinned (OpenSpec.ofChange timecodeTenMinutesSpec)

/-- ITS FALSE NEIGHBOUR: 'it returns false'. Refute it at one input. -/
def timecodeTenMinutesWrong : ChangeSpec := { name := "timecodeTenMinutes", fn := fun _ => fun
  | [d1, d2, d3] => { results := [.lit (.bool false)], args := [d1, d2, d3] }
  | _ => none }
def TimecodeTenMinutesWrongFalsely : Prop := timecodeTenMinutesRow.holds Try.pinned (OpenSpec.ofChange timecodeTenMinutesWrong)

/-- 'cutroomlaw19.TimecodeAdds': WHATEVER THE INPUT: true; the input reads as it did. -/
def timecodeAddsSpec : ChangeSpec := { name := "timecodeAdds", fn := fun _ => fun
  | [d1, d2] => { results := [.lit (.bool true)], args := [d1, d2] }
  | _ => none }
def timecodeAddsRow : OpenClaim := { program := "ytehdkoillpebgaa", sum := "0e956dda71c8c9c84fcced1387a51076590167b0b79d57568273c95746f70b8a", func := "cutroom/cutroomlaw19.TimecodeAdds", spec := "timecodeAdds", apart := false }
def TimecodeAddsSaid : Prop := timecodeAddsRow.holds Try.pinned (OpenSpec.ofChange timecodeAddsSpec)

/-- ITS FALSE NEIGHBOUR: 'it returns false'. Refute it at one input. -/
def timecodeAddsWrong : ChangeSpec := { name := "timecodeAdds", fn := fun _ => fun
  | [d1, d2] => { results := [.lit (.bool false)], args := [d1, d2] }
  | _ => none }
def TimecodeAddsWrongFalsely : Prop := timecodeAddsRow.holds Try.pinned (OpenSpec.ofChange timecodeAddsWrong)

/-- 'cutroomlaw19.TimecodeSums': WHATEVER THE INPUT: true; the input reads as it did. -/
def timecodeSumsSpec : ChangeSpec := { name := "timecodeSums", fn := fun _ => fun
  | [d1, d2, d3] => { results := [.lit (.bool true)], args := [d1, d2, d3] }
  | _ => none }
def timecodeSumsRow : OpenClaim := { program := "ytehdkoillpebgaa", sum := "0e956dda71c8c9c84fcced1387a51076590167b0b79d57568273c95746f70b8a", func := "cutroom/cutroomlaw19.TimecodeSums", spec := "timecodeSums", apart := false }
def TimecodeSumsSaid : Prop := timecodeSumsRow.holds Try.pinned (OpenSpec.ofChange timecodeSumsSpec)

/-- ITS FALSE NEIGHBOUR: 'it returns false'. Refute it at one input. -/
def timecodeSumsWrong : ChangeSpec := { name := "timecodeSums", fn := fun _ => fun
  | [d1, d2, d3] => { results := [.lit (.bool false)], args := [d1, d2, d3] }
  | _ => none }
def TimecodeSumsWrongFalsely : Prop := timecodeSumsRow.holds Try.pinned (OpenSpec.ofChange timecodeSumsWrong)

/-- 'cutroomlaw19.TimecodeFormats': WHATEVER THE INPUT: true; the input reads as it did. -/
def timecodeFormatsSpec : ChangeSpec := { name := "timecodeFormats", fn := fun _ => fun
  | [d] => { results := [.lit (.bool true)], args := [d] }
  | _ => none }
def timecodeFormatsRow : OpenClaim := { program := "ytehdkoillpebgaa", sum := "0e956dda71c8c9c84fcced1387a51076590167b0b79d57568273c95746f70b8a", func := "cutroom/cutroomlaw19.TimecodeFormats", spec := "timecodeFormats", apart := false }
def TimecodeFormatsSaid : Prop := timecodeFormatsRow.holds Try.pinned (OpenSpec.ofChange timecodeFormatsSpec)

/-- ITS FALSE NEIGHBOUR: 'it returns false'. Refute it at one input. -/
def timecodeFormatsWrong : ChangeSpec := { name := "timecodeFormats", fn := fun _ => fun
  | [d] => { results := [.lit (.bool false)], args := [d] }
  | _ => none }
def TimecodeFormatsWrongFalsely : Prop := timecodeFormatsRow.holds Try.pinned (OpenSpec.ofChange timecodeFormatsWrong)

/-- 'cutroomlaw19.TimecodeDrifts': WHATEVER THE INPUT: true; the input reads as it did. -/
def timecodeDriftsSpec : ChangeSpec := { name := "timecodeDrifts", fn := fun _ => fun
  | [d1, d2, d3] => { results := [.lit (.bool true)], args := [d1, d2, d3] }
  | _ => none }
def timecodeDriftsRow : OpenClaim := { program := "ytehdkoillpebgaa", sum := "0e956dda71c8c9c84fcced1387a51076590167b0b79d57568273c95746f70b8a", func := "cutroom/cutroomlaw19.TimecodeDrifts", spec := "timecodeDrifts", apart := false }
def TimecodeDriftsSaid : Prop := timecodeDriftsRow.holds Try.pinned (OpenSpec.ofChange timecodeDriftsSpec)

/-- ITS FALSE NEIGHBOUR: 'it returns false'. Refute it at one input. -/
def timecodeDriftsWrong : ChangeSpec := { name := "timecodeDrifts", fn := fun _ => fun
  | [d1, d2, d3] => { results := [.lit (.bool false)], args := [d1, d2, d3] }
  | _ => none }
def TimecodeDriftsWrongFalsely : Prop := timecodeDriftsRow.holds Try.pinned (OpenSpec.ofChange timecodeDriftsWrong)

/-- 'cutroomlaw19.TimecodeClock': WHATEVER THE INPUT: true; the input reads as it did. -/
def timecodeClockSpec : ChangeSpec := { name := "timecodeClock", fn := fun _ => fun
  | [d1, d2] => { results := [.lit (.bool true)], args := [d1, d2] }
  | _ => none }
def timecodeClockRow : OpenClaim := { program := "ytehdkoillpebgaa", sum := "0e956dda71c8c9c84fcced1387a51076590167b0b79d57568273c95746f70b8a", func := "cutroom/cutroomlaw19.TimecodeClock", spec := "timecodeClock", apart := false }
def TimecodeClockSaid : Prop := timecodeClockRow.holds Try.pinned (OpenSpec.ofChange timecodeClockSpec)

/-- ITS FALSE NEIGHBOUR: 'it returns false'. Refute it at one input. -/
def timecodeClockWrong : ChangeSpec := { name := "timecodeClock", fn := fun _ => fun
  | [d1, d2] => { results := [.lit (.bool false)], args := [d1, d2] }
  | _ => none }
def TimecodeClockWrongFalsely : Prop := timecodeClockRow.holds Try.pinned (OpenSpec.ofChange timecodeClockWrong)

/-- 'cutroomlaw19.TimecodeBehind': WHATEVER THE INPUT: true; the input reads as it did. -/
def timecodeBehindSpec : ChangeSpec := { name := "timecodeBehind", fn := fun _ => fun
  | [d1, d2] => { results := [.lit (.bool true)], args := [d1, d2] }
  | _ => none }
def timecodeBehindRow : OpenClaim := { program := "ytehdkoillpebgaa", sum := "0e956dda71c8c9c84fcced1387a51076590167b0b79d57568273c95746f70b8a", func := "cutroom/cutroomlaw19.TimecodeBehind", spec := "timecodeBehind", apart := false }
def TimecodeBehindSaid : Prop := timecodeBehindRow.holds Try.pinned (OpenSpec.ofChange timecodeBehindSpec)

/-- ITS FALSE NEIGHBOUR: 'it returns false'. Refute it at one input. -/
def timecodeBehindWrong : ChangeSpec := { name := "timecodeBehind", fn := fun _ => fun
  | [d1, d2] => { results := [.lit (.bool false)], args := [d1, d2] }
  | _ => none }
def TimecodeBehindWrongFalsely : Prop := timecodeBehindRow.holds Try.pinned (OpenSpec.ofChange timecodeBehindWrong)

/- THE SECOND FORM. 'bulk': how many values and letters a reading holds, each counted each time it is reached (what is shared counts as often as it is met; a slice's spare places count too). A statement '..UptoSaid' is the law's where the arguments, and the package variables that the reading takes, are together of bulk at most 1048576: NARROWER than '..Said'. Prove '..Said' where nothing that the law and all that it calls make is longer than what came in: it says more and counts as full. Else prove '..UptoSaid'. A law counts once. -/
mutual
def uptoBulk {H : Type} : DataW H → Nat
  | .lit (.string bytes) => bytes.length + 1
  | .lit _ => 1
  | .nil => 1
  | .ptr d => uptoBulk d + 1
  | .slice elems spare => uptoBulkAll elems + uptoBulkAll spare + 1
  | .agg parts => uptoBulkAll parts + 1
  | .iface _ d => uptoBulk d + 1
  | .map entries => uptoBulkEntries entries + 1
  | .held _ => 1
def uptoBulkAll {H : Type} : List (DataW H) → Nat
  | [] => 0
  | d :: r => uptoBulk d + uptoBulkAll r
def uptoBulkEntries {H : Type} : List (Lit × DataW H) → Nat
  | [] => 0
  | x :: r => uptoBulkEntry x + uptoBulkEntries r
def uptoBulkEntry {H : Type} : Lit × DataW H → Nat
  | (.string bytes, d) => bytes.length + uptoBulk d + 1
  | (_, d) => uptoBulk d + 1
 end
def uptoSmall : (H : Type) → List (DataW H) → Bool := fun _ ds => decide (uptoBulkAll ds ≤ 1048576)
def OpenSpec.upto (s : _root_.Go.ChangeSpec) : _root_.Go.OpenSpec := { _root_.Go.OpenSpec.ofChange s with cond := some uptoSmall }

/-- 'cutroomlaw19.TimecodeBases', WHERE WHAT IT READS IS OF BULK AT MOST 1048576: true; the input reads as it did. -/
def timecodeBasesUptoRow : OpenClaim := { program := "ytehdkoillpebgaa", sum := "0e956dda71c8c9c84fcced1387a51076590167b0b79d57568273c95746f70b8a", func := "cutroom/cutroomlaw19.TimecodeBases", spec := "timecodeBases", apart := false, narrowed := true }
def TimecodeBasesUptoSaid : Prop := timecodeBasesUptoRow.holds Try.pinned (OpenSpec.upto timecodeBasesSpec)

/-- 'cutroomlaw19.TimecodeDays', WHERE WHAT IT READS IS OF BULK AT MOST 1048576: true; the input reads as it did. -/
def timecodeDaysUptoRow : OpenClaim := { program := "ytehdkoillpebgaa", sum := "0e956dda71c8c9c84fcced1387a51076590167b0b79d57568273c95746f70b8a", func := "cutroom/cutroomlaw19.TimecodeDays", spec := "timecodeDays", apart := false, narrowed := true }
def TimecodeDaysUptoSaid : Prop := timecodeDaysUptoRow.holds Try.pinned (OpenSpec.upto timecodeDaysSpec)

/-- 'cutroomlaw19.TimecodeLabels', WHERE WHAT IT READS IS OF BULK AT MOST 1048576: true; the input reads as it did. -/
def timecodeLabelsUptoRow : OpenClaim := { program := "ytehdkoillpebgaa", sum := "0e956dda71c8c9c84fcced1387a51076590167b0b79d57568273c95746f70b8a", func := "cutroom/cutroomlaw19.TimecodeLabels", spec := "timecodeLabels", apart := false, narrowed := true }
def TimecodeLabelsUptoSaid : Prop := timecodeLabelsUptoRow.holds Try.pinned (OpenSpec.upto timecodeLabelsSpec)

/-- 'cutroomlaw19.TimecodeNumbers', WHERE WHAT IT READS IS OF BULK AT MOST 1048576: true; the input reads as it did. -/
def timecodeNumbersUptoRow : OpenClaim := { program := "ytehdkoillpebgaa", sum := "0e956dda71c8c9c84fcced1387a51076590167b0b79d57568273c95746f70b8a", func := "cutroom/cutroomlaw19.TimecodeNumbers", spec := "timecodeNumbers", apart := false, narrowed := true }
def TimecodeNumbersUptoSaid : Prop := timecodeNumbersUptoRow.holds Try.pinned (OpenSpec.upto timecodeNumbersSpec)

/-- 'cutroomlaw19.TimecodeInverse', WHERE WHAT IT READS IS OF BULK AT MOST 1048576: true; the input reads as it did. -/
def timecodeInverseUptoRow : OpenClaim := { program := "ytehdkoillpebgaa", sum := "0e956dda71c8c9c84fcced1387a51076590167b0b79d57568273c95746f70b8a", func := "cutroom/cutroomlaw19.TimecodeInverse", spec := "timecodeInverse", apart := false, narrowed := true }
def TimecodeInverseUptoSaid : Prop := timecodeInverseUptoRow.holds Try.pinned (OpenSpec.upto timecodeInverseSpec)

/-- 'cutroomlaw19.TimecodeOrder', WHERE WHAT IT READS IS OF BULK AT MOST 1048576: true; the input reads as it did. -/
def timecodeOrderUptoRow : OpenClaim := { program := "ytehdkoillpebgaa", sum := "0e956dda71c8c9c84fcced1387a51076590167b0b79d57568273c95746f70b8a", func := "cutroom/cutroomlaw19.TimecodeOrder", spec := "timecodeOrder", apart := false, narrowed := true }
def TimecodeOrderUptoSaid : Prop := timecodeOrderUptoRow.holds Try.pinned (OpenSpec.upto timecodeOrderSpec)

/-- 'cutroomlaw19.TimecodeDropped', WHERE WHAT IT READS IS OF BULK AT MOST 1048576: true; the input reads as it did. -/
def timecodeDroppedUptoRow : OpenClaim := { program := "ytehdkoillpebgaa", sum := "0e956dda71c8c9c84fcced1387a51076590167b0b79d57568273c95746f70b8a", func := "cutroom/cutroomlaw19.TimecodeDropped", spec := "timecodeDropped", apart := false, narrowed := true }
def TimecodeDroppedUptoSaid : Prop := timecodeDroppedUptoRow.holds Try.pinned (OpenSpec.upto timecodeDroppedSpec)

/-- 'cutroomlaw19.TimecodeTenMinutes', WHERE WHAT IT READS IS OF BULK AT MOST 1048576: true; the input reads as it did. -/
def timecodeTenMinutesUptoRow : OpenClaim := { program := "ytehdkoillpebgaa", sum := "0e956dda71c8c9c84fcced1387a51076590167b0b79d57568273c95746f70b8a", func := "cutroom/cutroomlaw19.TimecodeTenMinutes", spec := "timecodeTenMinutes", apart := false, narrowed := true }
def TimecodeTenMinutesUptoSaid : Prop := timecodeTenMinutesUptoRow.holds Try.pinned (OpenSpec.upto timecodeTenMinutesSpec)

/-- 'cutroomlaw19.TimecodeAdds', WHERE WHAT IT READS IS OF BULK AT MOST 1048576: true; the input reads as it did. -/
def timecodeAddsUptoRow : OpenClaim := { program := "ytehdkoillpebgaa", sum := "0e956dda71c8c9c84fcced1387a51076590167b0b79d57568273c95746f70b8a", func := "cutroom/cutroomlaw19.TimecodeAdds", spec := "timecodeAdds", apart := false, narrowed := true }
def TimecodeAddsUptoSaid : Prop := timecodeAddsUptoRow.holds Try.pinned (OpenSpec.upto timecodeAddsSpec)

/-- 'cutroomlaw19.TimecodeSums', WHERE WHAT IT READS IS OF BULK AT MOST 1048576: true; the input reads as it did. -/
def timecodeSumsUptoRow : OpenClaim := { program := "ytehdkoillpebgaa", sum := "0e956dda71c8c9c84fcced1387a51076590167b0b79d57568273c95746f70b8a", func := "cutroom/cutroomlaw19.TimecodeSums", spec := "timecodeSums", apart := false, narrowed := true }
def TimecodeSumsUptoSaid : Prop := timecodeSumsUptoRow.holds Try.pinned (OpenSpec.upto timecodeSumsSpec)

/-- 'cutroomlaw19.TimecodeFormats', WHERE WHAT IT READS IS OF BULK AT MOST 1048576: true; the input reads as it did. -/
def timecodeFormatsUptoRow : OpenClaim := { program := "ytehdkoillpebgaa", sum := "0e956dda71c8c9c84fcced1387a51076590167b0b79d57568273c95746f70b8a", func := "cutroom/cutroomlaw19.TimecodeFormats", spec := "timecodeFormats", apart := false, narrowed := true }
def TimecodeFormatsUptoSaid : Prop := timecodeFormatsUptoRow.holds Try.pinned (OpenSpec.upto timecodeFormatsSpec)

/-- 'cutroomlaw19.TimecodeDrifts', WHERE WHAT IT READS IS OF BULK AT MOST 1048576: true; the input reads as it did. -/
def timecodeDriftsUptoRow : OpenClaim := { program := "ytehdkoillpebgaa", sum := "0e956dda71c8c9c84fcced1387a51076590167b0b79d57568273c95746f70b8a", func := "cutroom/cutroomlaw19.TimecodeDrifts", spec := "timecodeDrifts", apart := false, narrowed := true }
def TimecodeDriftsUptoSaid : Prop := timecodeDriftsUptoRow.holds Try.pinned (OpenSpec.upto timecodeDriftsSpec)

/-- 'cutroomlaw19.TimecodeClock', WHERE WHAT IT READS IS OF BULK AT MOST 1048576: true; the input reads as it did. -/
def timecodeClockUptoRow : OpenClaim := { program := "ytehdkoillpebgaa", sum := "0e956dda71c8c9c84fcced1387a51076590167b0b79d57568273c95746f70b8a", func := "cutroom/cutroomlaw19.TimecodeClock", spec := "timecodeClock", apart := false, narrowed := true }
def TimecodeClockUptoSaid : Prop := timecodeClockUptoRow.holds Try.pinned (OpenSpec.upto timecodeClockSpec)

/-- 'cutroomlaw19.TimecodeBehind', WHERE WHAT IT READS IS OF BULK AT MOST 1048576: true; the input reads as it did. -/
def timecodeBehindUptoRow : OpenClaim := { program := "ytehdkoillpebgaa", sum := "0e956dda71c8c9c84fcced1387a51076590167b0b79d57568273c95746f70b8a", func := "cutroom/cutroomlaw19.TimecodeBehind", spec := "timecodeBehind", apart := false, narrowed := true }
def TimecodeBehindUptoSaid : Prop := timecodeBehindUptoRow.holds Try.pinned (OpenSpec.upto timecodeBehindSpec)

end Rows
end Go.Proofs.Ytehdkoillpebgaa
