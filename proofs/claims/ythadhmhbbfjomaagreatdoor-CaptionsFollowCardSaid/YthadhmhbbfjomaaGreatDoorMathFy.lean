
/-
  Plain law of CaptionsFollow: one run of 400 frames, and two that follow each other, carry the same captions.
  Conditions: none.
-/
import Derived.Test.YthadhmhbbfjomaaGreatDoorMathFw
namespace Go.Proofs.YthadhmhbbfjomaaGreatDoor
set_option linter.unusedVariables false
set_option linter.unusedSimpArgs false

theorem carR_one (l : List AC) (hl : l.all vA = true) (hn : NoT l) (b : Int) : carR l [] [⟨0, 0, b⟩] = cutA 0 b l := by
  show carL [] (shiftA 0 (cutA 0 (0 + b) l)) = _
  rw [shift_zero, Int.zero_add]
  exact car_whole hl hn
theorem foll_split (l : List AC) (hl : l.all vA = true) (ho : ordA l = true) (hn : NoT l) : carR l [] [⟨0, 0, 400⟩] = carR l [] [⟨0, 0, 13⟩, ⟨13, 13, 387⟩] := by
  rw [carR_one l hl hn]
  show _ = carL (carR l [] [⟨0, 0, 13⟩]) (shiftA 13 (cutA 13 (13 + 387) l))
  rw [carR_one l hl hn]
  exact (car_split (m := 13) (b := 400) (by decide) (by decide) hl ho hn).symm
theorem wantR_take {l : List AC} {n : Int} {rs : List Rn} {k : Nat} {r : Rn} (hr : rs[k]? = some r) : wantR l n none (rs.take (k + 1)) = if r.film ≤ n ∧ n < r.film + r.len then findB (r.frm + n - r.film) l else wantR l n none (rs.take k) := by
  rw [List.take_add_one, hr]
  exact wantR_snoc l n none (rs.take k) r
end Go.Proofs.YthadhmhbbfjomaaGreatDoor
