
/-
  Contracts joined: Number of both sides, Format of the program; the sanity check.
  Conditions: the arguments are integers of their kinds.
-/
import Derived.Test.YtgbiodnfpbhjiaaGreatDoorWalk19I
import Derived.Test.YtgbiodnfpbhjiaaGreatDoorWalk19K
import Derived.Test.YtgbiodnfpbhjiaaGreatDoorWalk19D
namespace Go.Proofs.YtgbiodnfpbhjiaaGreatDoor.C19
open Go.RowKit
set_option linter.unusedSimpArgs false
set_option linter.unusedVariables false

theorem number_any (h m s f b : Int) (d : Bool) (w : World) :
    Calls Tryz.prog 176 #[.agg #[.int .i64 h, .int .i64 m, .int .i64 s, .int .i64 f, .int .i64 b, .bool d]] w fun e w' => e = .returned (.tuple #[.int .i64 (nmV h m s f b d), .int .i64 (nmE h m s f b d)]) ∧ Gr w w' := by
  by_cases ho : okB b d = true
  · by_cases hi : inN h m s f b = true
    · exact number_in h m s f b d w ho hi
    · have hi : inN h m s f b = false := by simpa using hi
      have e1 : nmV h m s f b d = 0 := by unfold nmV; rw [ho, hi]; rfl
      have e2 : nmE h m s f b d = 2 := by unfold nmE; rw [ho, hi]; rfl
      rw [e1, e2]
      exact number_out h m s f b d w ho hi
  · have ho : okB b d = false := by simpa using ho
    have e1 : nmV h m s f b d = 0 := by unfold nmV; rw [ho]; rfl
    have e2 : nmE h m s f b d = 1 := by unfold nmE; rw [ho]; rfl
    rw [e1, e2]
    exact number_no h m s f b d w ho
theorem rnumber_any (h m s f b : Int) (d : Bool) (w : World) :
    Calls Tryz.prog 136 #[.agg #[.int .i64 h, .int .i64 m, .int .i64 s, .int .i64 f, .int .i64 b, .bool d]] w fun e w' => e = .returned (.tuple #[.int .i64 (nmV h m s f b d), .int .i64 (nmE h m s f b d)]) ∧ Gr w w' := by
  by_cases ho : okB b d = true
  · by_cases hi : inN h m s f b = true
    · exact rnumber_in h m s f b d w ho hi
    · have hi : inN h m s f b = false := by simpa using hi
      have e1 : nmV h m s f b d = 0 := by unfold nmV; rw [ho, hi]; rfl
      have e2 : nmE h m s f b d = 2 := by unfold nmE; rw [ho, hi]; rfl
      rw [e1, e2]
      exact rnumber_out h m s f b d w ho hi
  · have ho : okB b d = false := by simpa using ho
    have e1 : nmV h m s f b d = 0 := by unfold nmV; rw [ho]; rfl
    have e2 : nmE h m s f b d = 1 := by unfold nmE; rw [ho]; rfl
    rw [e1, e2]
    exact rnumber_no h m s f b d w ho
theorem nmE_cases (h m s f b : Int) (d : Bool) : (nmE h m s f b d = 0 ∧ okB b d = true ∧ inN h m s f b = true ∧ miss h m s f b d = false ∧ nmV h m s f b d = numN h m s f b d) ∨ ((nmE h m s f b d = 1 ∨ nmE h m s f b d = 2) ∧ nmV h m s f b d = 0) := by
  unfold nmE nmV
  cases okB b d <;> cases inN h m s f b <;> cases miss h m s f b d <;> simp
/-- the text, where there is one -/
def fmV (h m s f b : Int) (d : Bool) : ByteArray := if nmE h m s f b d = 0 then fmtS h m s f d else ByteArray.empty
theorem format_any (h m s f b : Int) (d : Bool) (w : World) :
    Calls Tryz.prog 134 #[.agg #[.int .i64 h, .int .i64 m, .int .i64 s, .int .i64 f, .int .i64 b, .bool d]] w fun e w' => e = .returned (.tuple #[.string (fmV h m s f b d), .int .i64 (nmE h m s f b d)]) ∧ Gr w w' := by
  have H := fun w => number_any h m s f b d w
  unfold fmV
  rcases nmE_cases h m s f b d with ⟨e0, ho, hi, hm, e1⟩ | ⟨e0, e1⟩
  · obtain ⟨p1, p2, p3, p4⟩ := inN_out hi
    have hb := okB_bounds ho
    rw [e0] at H ⊢
    exact format_yes h m s f b _ d w (by omega) (by omega) (by omega) (by omega) H
  · rw [e1] at H
    rw [if_neg (by omega)]
    exact format_no h m s f b d _ w e0 H

end Go.Proofs.YtgbiodnfpbhjiaaGreatDoor.C19
