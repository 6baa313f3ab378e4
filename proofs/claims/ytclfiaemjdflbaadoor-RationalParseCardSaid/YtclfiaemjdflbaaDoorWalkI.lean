/-
  Contract of the sanity check.
  Conditions: none.
-/
import Derived.Test.YtclfiaemjdflbaaDoorWalkG
import Derived.Test.YtclfiaemjdflbaaDoorReg
namespace Go.Proofs.YtclfiaemjdflbaaDoor
open Go.RowKit
set_option linter.unusedSimpArgs false
set_option linter.unusedVariables false

/-- the sanity check -/
theorem awake_any (w : World) : Calls Tryd.prog 7 #[] w fun e w' => e = .returned (.bool true) ∧ Gr w w' := by
  have e1 : oN 6 (-4) = -3 := by decide
  have e2 : oD 6 (-4) = 2 := by decide
  have e3 : oE 6 (-4) = 0 := by decide
  have e4 : vB (-3) 2 = true := by decide
  have h1 : I64 6 := by unfold I64; omega
  have h2 : I64 (-4) := by unfold I64; omega
  have h3 : I64 (-3) := by unfold I64; omega
  have h4 : I64 2 := by unfold I64; omega
  have HO : Hid (∀ w, Calls Tryd.prog 16 #[.int .i64 6, .int .i64 (-4)] w fun e w' => e = .returned (.tuple #[.agg #[.int .i64 (-3), .int .i64 2], .int .i64 0]) ∧ Gr w w') := fun w => by
    have := of_any 6 (-4) w h1 h2
    rw [e1, e2, e3] at this
    exact this
  have HV : Hid (∀ w, Calls Tryd.prog 17 #[.agg #[.int .i64 (-3), .int .i64 2]] w fun e w' => e = .returned (.bool true) ∧ Gr w w') := fun w => by
    have := valid_any (-3) 2 w h3 h4
    rw [e4] at this
    exact this
  clear e1 e2 e3 e4 h1 h2 h3 h4
  go_enter Tryd.func7, Tryd.ntmps7
  go_wp2_with (first
    | (go_at_call 16; refine (HO.out _).mono ?_; rintro e w1 ⟨rfl, hg0⟩; obtain ⟨hc0, hf0⟩ := hg0.cells)
    | (go_at_call 17; refine (HV.out _).mono ?_; rintro e w2 ⟨rfl, hg1⟩))
  go_ret
  exact ⟨ret_bool rfl, (by repeat (first | refine Gr.setCell ?_ (by first | omega | (simp; done) | (simp; omega)) _ | refine Gr.alloc ?_ _ | refine Gr.drew ?_ | refine Gr.drewN ?_ _ | with_reducible assumption | with_reducible exact Gr.refl _ | refine Gr.trans ?_ (by with_reducible assumption)))⟩
end Go.Proofs.YtclfiaemjdflbaaDoor
