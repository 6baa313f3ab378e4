/-
  Arguments as the reading hands them over: a list of events is no longer than its room.
  Conditions: none.
-/
import Derived.Test.YtgbiodnfpbhjiaaGreatDoorLift
namespace Go.Proofs.YtgbiodnfpbhjiaaGreatDoor
open Go.ChangeShapes Go.WideShapes Go.ChangeAt Go.RowKit Go.Joins Go.Deep
set_option linter.unusedVariables false

theorem evs_cap {H : Type} {enc : TypeId × Value → H} {w : World} {base : Nat} {sp : Nat → Bool} {held : Bool} {fuel : Nat} {v : Value} {x : DataW H × List MemPlace} (h : DataW.trod enc Tryz.prog w base sp held fuel 22 [v] = some x) : ∀ a n c, v = .slice a n c → n ≤ c := by
  have hu : Tryz.prog.underlying 22 = some (.slice 30) := Tryz.underlying22
  intro a n c hv
  rcases open_slice hu h with ⟨e, rfl⟩ | ⟨a', len, cap, m, n', D, Pl, e, hb, hlc, hcm, hm, rfl, hel⟩
  · simp at e
    rw [hv] at e
    injection e with e1 e2 e3
    omega
  · simp at e
    rw [hv] at e
    injection e with e1 e2 e3
    omega
end Go.Proofs.YtgbiodnfpbhjiaaGreatDoor
