
/-
  What the rows' condition on the laid variables gives a walk of chapter 29.
  Conditions: none.
-/
import Derived.Test.YthadhmhbbfjomaaGreatDoorRows
import Derived.Test.YthadhmhbbfjomaaGreatDoorFint
import Derived.ProofKit
import Derived.LaidMore
import Derived.LaidOnce
import Derived.Stop.LaidErr
namespace Go.Proofs.YthadhmhbbfjomaaGreatDoor
open Go.ChangeShapes Go.WideShapes Go.ChangeAt Go.RowKit
set_option linter.unusedVariables false

def laid29 : List (String × DataW Unit) := [("math/bits.deBruijn32tab", Rows.laid_math_bits_deBruijn32tab), ("math/bits.deBruijn64tab", Rows.laid_math_bits_deBruijn64tab), ("internal/strconv.uint64pow10", Rows.laid_internal_strconv_uint64pow10)]
theorem laid29_met (os : Os) (args : Array Value) : laidMetH Tryz.prog laid29 ((World.doorLaid Tryz.prog 24 os).forCall (fun _ _ => 0) ⟨#[], args, []⟩).memory :=
  laidMetH_of_parts3 (fuel := 8) (laidMet_of_run' 8 (by kernel_rfl) (by kernel_rfl)) (by kernel_rfl) (by kernel_rfl)
theorem powTab : Rows.laid_internal_strconv_uint64pow10 (H := Unit) = Lib.tabData .u64 Lib.pow10Tab := by
  unfold Rows.laid_internal_strconv_uint64pow10 Lib.tabData Lib.pow10Tab
  simp [List.range, List.range.loop]
theorem pow_of_laid {W : World} (h : laidMetH Tryz.prog laid29 W) : Pow W := by
  rw [MakeChecks.laidMetH_plain _ _ _ (by kernel_rfl)] at h
  exact Lib.tabIs_of_head (g := 0) (by kernel_rfl) (by kernel_rfl) Tryz.underlying181 Tryz.underlying31 (by kernel_rfl) (by kernel_rfl) (by rw [← powTab]; exact laidMet.tail (laidMet.tail h))
end Go.Proofs.YthadhmhbbfjomaaGreatDoor
