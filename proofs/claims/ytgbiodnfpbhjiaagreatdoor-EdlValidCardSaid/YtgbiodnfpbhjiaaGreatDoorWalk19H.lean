
/-
  Contract of Number of the reference.
  Conditions: the arguments are integers of their kinds.
-/
import Derived.Test.YtgbiodnfpbhjiaaGreatDoorWalk19F
namespace Go.Proofs.YtgbiodnfpbhjiaaGreatDoor.C19
open Go.RowKit
set_option linter.unusedSimpArgs false
set_option linter.unusedVariables false

theorem ref_out {h m s f b : Int} (hi : inN h m s f b = false) : h < 0 ∨ (0 ≤ h ∧ 23 < h) ∨ ((0 ≤ h ∧ h ≤ 23) ∧ m < 0) ∨ ((0 ≤ h ∧ h ≤ 23) ∧ 0 ≤ m ∧ 59 < m) ∨ ((0 ≤ h ∧ h ≤ 23) ∧ (0 ≤ m ∧ m ≤ 59) ∧ s < 0) ∨ ((0 ≤ h ∧ h ≤ 23) ∧ (0 ≤ m ∧ m ≤ 59) ∧ 0 ≤ s ∧ 59 < s) ∨
    ((0 ≤ h ∧ h ≤ 23) ∧ (0 ≤ m ∧ m ≤ 59) ∧ (0 ≤ s ∧ s ≤ 59) ∧ f < 0) ∨ ((0 ≤ h ∧ h ≤ 23) ∧ (0 ≤ m ∧ m ≤ 59) ∧ (0 ≤ s ∧ s ≤ 59) ∧ 0 ≤ f ∧ b ≤ f) := by
  unfold inN wi at hi
  simp at hi
  omega

set_option maxHeartbeats 400000 in
theorem rnumber_out (h m s f b : Int) (d : Bool) (w : World) (ho : okB b d = true) (hi : inN h m s f b = false) :
    Calls Tryz.prog 136 #[.agg #[.int .i64 h, .int .i64 m, .int .i64 s, .int .i64 f, .int .i64 b, .bool d]] w fun e w' => e = .returned (.tuple #[.int .i64 0, .int .i64 2]) ∧ Gr w w' := by
  have HDY := Lib.hid (fun w => rday_yes b d w ho)
  generalize dayN b d = D at *
  clear ho
  rcases ref_out hi with h1 | ⟨h1, h2⟩ | ⟨h1, h2⟩ | ⟨h1, h2, h3⟩ | ⟨h1, h2, h3⟩ | ⟨h1, h2, h3, h4⟩ | ⟨h1, h2, h3, h4⟩ | ⟨h1, h2, h3, h4, h5⟩
  all_goals
    clear hi
    first | have c1 : decide (h < 0) = true := decide_eq_true (by omega) | have c1 : decide (h < 0) = false := decide_eq_false (by omega)
    first | have c2 : decide (23 < h) = true := decide_eq_true (by omega) | have c2 : decide (23 < h) = false := decide_eq_false (by omega)
    (try first | have c3 : decide (m < 0) = true := decide_eq_true (by omega) | have c3 : decide (m < 0) = false := decide_eq_false (by omega))
    (try first | have c4 : decide (59 < m) = true := decide_eq_true (by omega) | have c4 : decide (59 < m) = false := decide_eq_false (by omega))
    (try first | have c5 : decide (s < 0) = true := decide_eq_true (by omega) | have c5 : decide (s < 0) = false := decide_eq_false (by omega))
    (try first | have c6 : decide (59 < s) = true := decide_eq_true (by omega) | have c6 : decide (59 < s) = false := decide_eq_false (by omega))
    (try first | have c7 : decide (f < 0) = true := decide_eq_true (by omega) | have c7 : decide (f < 0) = false := decide_eq_false (by omega))
    (try first | have c8 : decide (b ≤ f) = true := decide_eq_true (by omega) | have c8 : decide (b ≤ f) = false := decide_eq_false (by omega))
    clear h1; (try clear h2); (try clear h3); (try clear h4); (try clear h5)
    go_enter Tryz.func136, Tryz.ntmps136
    go_wp2_with (go_at_call 38; refine (HDY.out _).mono ?_; rintro e w' ⟨rfl, rfl⟩)
    simp [bodyPost, results, Tryz.results136, go_sem]
    exact (by repeat (first | refine Gr.setCell ?_ (by first | omega | (simp; done) | (simp; omega)) _ | refine Gr.alloc ?_ _ | refine Gr.drew ?_ | refine Gr.drewN ?_ _ | with_reducible assumption | with_reducible exact Gr.refl _ | refine Gr.trans ?_ (by with_reducible assumption)))
end Go.Proofs.YtgbiodnfpbhjiaaGreatDoor.C19
