/-
  Contract of Add of package rational, for all arguments.
  Conditions: the arguments are integers of their kinds.
-/
import Derived.Test.YtclfiaemjdflbaaDoorWalkU
namespace Go.Proofs.YtclfiaemjdflbaaDoor
open Go.RowKit
set_option linter.unusedSimpArgs false
set_option linter.unusedVariables false

/-- the result of an operation: X/Y in lowest terms where the arguments are in order -/
def arN (ok : Bool) (X Y : Int) : Int := if ok then rN X Y else 0
def arD (ok : Bool) (X Y : Int) : Int := if ok then rD X Y else 0
def arE (ok : Bool) (X Y : Int) : Int := if ok then rE X Y else 1
def arV (ok : Bool) (X Y : Int) : Value := .tuple #[.agg #[.int .i64 (arN ok X Y), .int .i64 (arD ok X Y)], .int .i64 (arE ok X Y)]
theorem arV_no (X Y : Int) : arV false X Y = .tuple #[.agg #[.int .i64 0, .int .i64 0], .int .i64 1] := rfl
theorem arV_yes (X Y : Int) : arV true X Y = .tuple #[.agg #[.int .i64 (rN X Y), .int .i64 (rD X Y)], .int .i64 (rE X Y)] := rfl

theorem add_any (an ad bn bd : Int) (w : World) (hA : I64 an) (hB : I64 ad) (hC : I64 bn) (hD : I64 bd) :
    Calls Tryd.prog 25 #[.agg #[.int .i64 an, .int .i64 ad], .agg #[.int .i64 bn, .int .i64 bd]] w fun e w' => e = .returned (arV (vB an ad && vB bn bd) (an*bd+bn*ad) (ad*bd)) ∧ Gr w w' := by
  have HA := fun w => valid_any an ad w hA hB
  have HB := fun w => valid_any bn bd w hC hD
  cases va : vB an ad
  · rw [va] at HA
    rw [Bool.false_and, arV_no]
    exact arith_no_add an ad bn bd false (vB bn bd) w (.inl rfl) HA HB
  · cases vb : vB bn bd
    · rw [va] at HA
      rw [vb] at HB
      rw [Bool.and_false, arV_no]
      exact arith_no_add an ad bn bd true false w (.inr ⟨rfl, rfl⟩) HA HB
    · rw [Bool.true_and, arV_yes]
      exact add_valid an ad bn bd w hA hB hC hD va vb
end Go.Proofs.YtclfiaemjdflbaaDoor
