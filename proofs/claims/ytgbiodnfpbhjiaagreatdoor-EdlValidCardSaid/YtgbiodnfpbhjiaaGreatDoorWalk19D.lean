
/-
  Contracts of Base of package timecode and of its reference.
  Conditions: the arguments are integers of their kinds.
-/
import Derived.Test.YtgbiodnfpbhjiaaGreatDoorWalk19A
import Derived.Test.YtgbiodnfpbhjiaaGreatDoorMath19B
namespace Go.Proofs.YtgbiodnfpbhjiaaGreatDoor.C19
open Go.RowKit
set_option linter.unusedSimpArgs false
set_option linter.unusedVariables false

/-- the bases before place k of the list -/
def before (k : Nat) (b : Int) : Prop := (b = 24 ∧ 0 < k) ∨ (b = 25 ∧ 1 < k) ∨ (b = 30 ∧ 2 < k) ∨ (b = 48 ∧ 3 < k) ∨ (b = 50 ∧ 4 < k) ∨ (b = 60 ∧ 5 < k)

end Go.Proofs.YtgbiodnfpbhjiaaGreatDoor.C19
