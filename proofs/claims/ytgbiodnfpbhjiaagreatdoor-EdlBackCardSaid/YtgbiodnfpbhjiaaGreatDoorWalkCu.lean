
import Derived.Test.YtgbiodnfpbhjiaaGreatDoorWalkVa
import Derived.Test.YtgbiodnfpbhjiaaGreatDoorMem
import Derived.WalkSpells
import Derived.Defers
import Derived.Recover
/-
  Contract of Cut of the reference.
  Conditions: the list lies in memory and is of a size that memory has.
-/
namespace Go.Proofs.YtgbiodnfpbhjiaaGreatDoor
open Go.RowKit Go.Lib
set_option linter.unusedSimpArgs false
set_option linter.unusedVariables false

theorem infoStr : (Tryz.prog.info? 9).map (fun i => (i.zero, i.size, i.bytes)) = some (some (.string ByteArray.empty), 1, 16) := by kernel_rfl
theorem infoCue : (Tryz.prog.info? 261).map (fun i => (i.zero, i.size, i.bytes)) = some (some (.agg #[.int .i64 0, .int .i64 0, .slice none 0 0]), 3, 40) := by kernel_rfl

end Go.Proofs.YtgbiodnfpbhjiaaGreatDoor

/-
  Contract of slices.Clone of a list of strings.
  Conditions: the list lies in memory and is of a size that memory has.
-/
namespace Go.Proofs.YtgbiodnfpbhjiaaGreatDoor
open Go.RowKit Go.Lib
set_option linter.unusedSimpArgs false
set_option linter.unusedVariables false

end Go.Proofs.YtgbiodnfpbhjiaaGreatDoor

/-
  Contracts of the deferred closures of package captions, called while nothing panics.
  Conditions: none.
-/
namespace Go.Proofs.YtgbiodnfpbhjiaaGreatDoor
open Go.RowKit Go.Lib
set_option linter.unusedSimpArgs false
set_option linter.unusedVariables false

theorem hmf_any (P : Program) : ∀ (fn : Fn) (first cap : Array Value) (w : World), (Instr.makeFunc fn first cap).run P w = .ok (.func fn first cap) w := fun _ _ _ _ => rfl
end Go.Proofs.YtgbiodnfpbhjiaaGreatDoor

/-
  Contract of Cut of package captions.
  Conditions: the list lies in memory and is of a size that memory has.
-/
namespace Go.Proofs.YtgbiodnfpbhjiaaGreatDoor
open Go.RowKit Go.Lib
set_option linter.unusedSimpArgs false
set_option linter.unusedVariables false

theorem res_cells (w w1 : World) (a b : Value) (t t' : TypeId) (hg1 : Gr ((w.alloc (.cells #[a] t)).alloc (.cells #[b] t')) w1) : Cel w1 w.heap.size [a] ∧ Cel w1 (w.heap.size + 1) [b] := by
  have k1 := (Cel.new w #[a] t).alloc (.cells #[b] t') |>.gr hg1
  have k2 := (Cel.new (w.alloc (.cells #[a] t)) #[b] t').gr hg1
  simp at k1 k2
  exact ⟨k1, k2⟩
end Go.Proofs.YtgbiodnfpbhjiaaGreatDoor
