/-
  How many captions an argument of bounded bulk has.
  Conditions: none.
-/
import Derived.Test.YtckmebfgianeoaaDoorUpto
import Derived.Test.YtckmebfgianeoaaDoorOpen29
namespace Go.Proofs.YtckmebfgianeoaaDoor
open Go.ChangeShapes Go.WideShapes Go.RowKit Go.Joins Go.Deep
set_option linter.unusedVariables false

theorem bulk_one {H : Type} (d : DataW H) : 1 ≤ Rows.uptoBulk d := by
  unfold Rows.uptoBulk
  split <;> omega
theorem bulk_len {H : Type} : ∀ l : List (DataW H), l.length ≤ Rows.uptoBulkAll l
  | [] => Nat.zero_le _
  | d :: r => by
    have := bulk_one d
    have := bulk_len r
    rw [Rows.uptoBulkAll, List.length_cons]
    omega
theorem upto_head {H : Type} {d : DataW H} {r : List (DataW H)} (h : Rows.uptoBulkAll (d :: r) ≤ 1048576) : Rows.uptoBulk d ≤ 1048576 := by
  rw [Rows.uptoBulkAll] at h
  omega
theorem cues_bulk {H : Type} {enc : TypeId × Value → H} {w : World} {base : Nat} {sp : Nat → Bool} {held : Bool} {fuel : Nat} {v : Value} {x : DataW H × List MemPlace} (h : DataW.trod enc Tryd.prog w base sp held fuel 22 [v] = some x) (a : Option Addr) (l c : Nat) (hv : v = .slice a l c) : l ≤ Rows.uptoBulk x.1 := by
  have hu : Tryd.prog.underlying 22 = some (.slice 66) := Tryd.underlying22
  subst hv
  rcases open_slice hu h with ⟨e, rfl⟩ | ⟨a, len, cap, m, n, D, Pl, e, hb, hlc, hcm, hm, rfl, hel⟩
  · simp at e; obtain ⟨rfl, rfl, rfl⟩ := e; exact Nat.zero_le _
  · simp at e
    obtain ⟨_, rfl, _⟩ := e
    simp only
    rw [Rows.uptoBulk]
    have := bulk_len ((List.range l).map D)
    simp at this
    omega
end Go.Proofs.YtckmebfgianeoaaDoor
