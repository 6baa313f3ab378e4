
/-
  Contracts of Ordered of package captions and of the reference.
  Conditions: the captions lie in memory.
-/
import Derived.Test.YthadhmhbbfjomaaGreatDoorWalkCu
namespace Go.Proofs.YthadhmhbbfjomaaGreatDoor
open Go.RowKit Go.Lib
set_option linter.unusedSimpArgs false
set_option linter.unusedVariables false

/-- no caption begins ahead of the end of the one before it -/
def ordB : List Cu → Bool
  | c :: d :: l => decide (c.t ≤ d.f) && ordB (d :: l)
  | _ => true
theorem ordB_step {cs : List Cu} {j : Nat} (h : j + 1 < cs.length) : ordB (cs.drop j) = (decide (cs[j].t ≤ cs[j + 1].f) && ordB (cs.drop (j + 1))) := by
  rw [List.drop_eq_getElem_cons (show j < cs.length by omega), List.drop_eq_getElem_cons h]
  rfl
theorem ordB_end {cs : List Cu} {j : Nat} (h : cs.length ≤ j + 1) : ordB (cs.drop j) = true := by
  have hl : (cs.drop j).length ≤ 1 := by simp; omega
  match cs.drop j, hl with
  | [], _ => rfl
  | [_], _ => rfl

theorem res_cell (w w1 : World) (a : Value) (t : TypeId) (hg1 : Gr (w.alloc (.cells #[a] t)) w1) : Cel w1 w.heap.size [a] := (Cel.new w #[a] t).gr hg1
end Go.Proofs.YthadhmhbbfjomaaGreatDoor
