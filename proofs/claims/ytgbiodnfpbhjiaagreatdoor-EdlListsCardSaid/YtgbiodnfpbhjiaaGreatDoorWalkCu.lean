/-
  Contract of Cut of the reference.
  Conditions: the list lies in memory and is of a size that memory has.
-/
import Derived.Test.YtgbiodnfpbhjiaaGreatDoorWalkVa
import Derived.Test.YtgbiodnfpbhjiaaGreatDoorMem
import Derived.WalkSpells
import Derived.Defers
import Derived.Recover
namespace Go.Proofs.YtgbiodnfpbhjiaaGreatDoor
open Go.RowKit Go.Lib
set_option linter.unusedSimpArgs false
set_option linter.unusedVariables false
theorem hmf_any (P:Program):∀ (fn:Fn) (first cap:Array Value) (w:World),(Instr.makeFunc fn first cap).run P w=.ok (.func fn first cap) w:=fun _ _ _ _=>rfl
end Go.Proofs.YtgbiodnfpbhjiaaGreatDoor
