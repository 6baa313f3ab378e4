/-
  Walk of the law EdlTracks.
  Conditions: the list given and the numbers lie in memory; the table of powers is laid.
-/
import Derived.Test.YtgbiodnfpbhjiaaGreatDoorWalkUe
import Derived.Test.YtgbiodnfpbhjiaaGreatDoorLawLines
namespace Go.Proofs.YtgbiodnfpbhjiaaGreatDoor
open Go.RowKit Go.Lib
set_option linter.unusedSimpArgs false
set_option linter.unusedVariables false

theorem TrkP.gr {l : El} {E : Int} {v : Value} {w w' : World} (h : TrkP l E v w) (hg : Gr w w') : TrkP l E v w' := by
  rcases h with h | h | ⟨h1, h2, h3, ts, h4, h5⟩
  · exact .inl h
  · exact .inr (.inl h)
  · exact .inr (.inr ⟨h1, h2, h3, ts, h4.gr hg, h5⟩)
theorem own_cap {W : World} {base size n : Nat} {e : TypeId} {v : Value} {xs : List Value} (h : W.ownsRow base e size v n xs) : ∀ a m c, v = .slice a m c → m ≤ c := fun a m c hv => by
  rcases h.2 with ⟨e1, _⟩ | ⟨g, cap, cur, e1, _, _, h3, _⟩
  · rw [e1] at hv; injection hv with h1 h2 h3; omega
  · rw [e1] at hv; injection hv with h1 h2 h4; omega
end Go.Proofs.YtgbiodnfpbhjiaaGreatDoor
