/-
  Contracts: which rules are valid.
  Conditions: none.
-/
import Derived.Test.YtckmebfgianeoaaDoorMathR
import Derived.Test.YtckmebfgianeoaaDoorKit
namespace Go.Proofs.YtckmebfgianeoaaDoor
open Go.RowKit Go.Lib
set_option linter.unusedSimpArgs false
set_option linter.unusedVariables false

/-- the rules as a value -/
def Ru.val (r : Ru) : Value := .agg #[.int .i64 r.s, .int .i64 r.l, .int .i64 r.g, .int .i64 r.wd]
set_option maxHeartbeats 2000000 in
theorem validRules_any (r : Ru) (w : World) : Calls Tryd.prog 60 #[r.val] w fun e w' => e = .returned (.bool (ruB r)) ∧ Gr w w' := by
  obtain ⟨s, l, g, k⟩ := r
  unfold Ru.val ruB
  show Calls Tryd.prog 60 #[.agg #[.int .i64 s, .int .i64 l, .int .i64 g, .int .i64 k]] w fun e w' => e = .returned (.bool (decide (1 ≤ s ∧ s ≤ l ∧ l ≤ 2147483647 ∧ 0 ≤ g ∧ g ≤ 2147483647 ∧ 1 ≤ k ∧ k ≤ 64))) ∧ Gr w w'
  rcases (show (s < 1) ∨ (1 ≤ s ∧ l < s) ∨ (1 ≤ s ∧ s ≤ l ∧ 2147483647 < l) ∨ (1 ≤ s ∧ s ≤ l ∧ l ≤ 2147483647 ∧ g < 0) ∨ (1 ≤ s ∧ s ≤ l ∧ l ≤ 2147483647 ∧ 0 ≤ g ∧ 2147483647 < g) ∨ (1 ≤ s ∧ s ≤ l ∧ l ≤ 2147483647 ∧ 0 ≤ g ∧ g ≤ 2147483647 ∧ k < 1) ∨ (1 ≤ s ∧ s ≤ l ∧ l ≤ 2147483647 ∧ 0 ≤ g ∧ g ≤ 2147483647 ∧ 1 ≤ k ∧ 64 < k) ∨ (1 ≤ s ∧ s ≤ l ∧ l ≤ 2147483647 ∧ 0 ≤ g ∧ g ≤ 2147483647 ∧ 1 ≤ k ∧ k ≤ 64) by omega) with h0 | ⟨h0, h1⟩ | ⟨h0, h1, h2⟩ | ⟨h0, h1, h2, h3⟩ | ⟨h0, h1, h2, h3, h4⟩ | ⟨h0, h1, h2, h3, h4, h5⟩ | ⟨h0, h1, h2, h3, h4, h5, h6⟩ | ⟨h0, h1, h2, h3, h4, h5, h6⟩
  · rw [decide_eq_false (by omega)]
    have q0 : decide (1 ≤ s) = false := decide_eq_false (by omega)
    clear h0
    go_enter Tryd.func60, Tryd.ntmps60
    go_wp2
    go_ret
    exact ⟨rfl, (by repeat (first | with_reducible exact Gr.refl _ | with_reducible assumption | refine Gr.setCell ?_ (by first | omega | (simp; done) | (simp; omega)) _ | refine Gr.alloc ?_ _ | refine Gr.drew ?_ | refine Gr.drewN ?_ _ | refine Gr.trans ?_ (by with_reducible assumption)))⟩
  · rw [decide_eq_false (by omega)]
    have q0 : decide (1 ≤ s) = true := decide_eq_true h0
    have q1 : decide (s ≤ l) = false := decide_eq_false (by omega)
    clear h0 h1
    go_enter Tryd.func60, Tryd.ntmps60
    go_wp2
    go_ret
    exact ⟨rfl, (by repeat (first | with_reducible exact Gr.refl _ | with_reducible assumption | refine Gr.setCell ?_ (by first | omega | (simp; done) | (simp; omega)) _ | refine Gr.alloc ?_ _ | refine Gr.drew ?_ | refine Gr.drewN ?_ _ | refine Gr.trans ?_ (by with_reducible assumption)))⟩
  · rw [decide_eq_false (by omega)]
    have q0 : decide (1 ≤ s) = true := decide_eq_true h0
    have q1 : decide (s ≤ l) = true := decide_eq_true h1
    have q2 : decide (l ≤ 2147483647) = false := decide_eq_false (by omega)
    clear h0 h1 h2
    go_enter Tryd.func60, Tryd.ntmps60
    go_wp2
    go_ret
    exact ⟨rfl, (by repeat (first | with_reducible exact Gr.refl _ | with_reducible assumption | refine Gr.setCell ?_ (by first | omega | (simp; done) | (simp; omega)) _ | refine Gr.alloc ?_ _ | refine Gr.drew ?_ | refine Gr.drewN ?_ _ | refine Gr.trans ?_ (by with_reducible assumption)))⟩
  · rw [decide_eq_false (by omega)]
    have q0 : decide (1 ≤ s) = true := decide_eq_true h0
    have q1 : decide (s ≤ l) = true := decide_eq_true h1
    have q2 : decide (l ≤ 2147483647) = true := decide_eq_true h2
    have q3 : decide (0 ≤ g) = false := decide_eq_false (by omega)
    clear h0 h1 h2 h3
    go_enter Tryd.func60, Tryd.ntmps60
    go_wp2
    go_ret
    exact ⟨rfl, (by repeat (first | with_reducible exact Gr.refl _ | with_reducible assumption | refine Gr.setCell ?_ (by first | omega | (simp; done) | (simp; omega)) _ | refine Gr.alloc ?_ _ | refine Gr.drew ?_ | refine Gr.drewN ?_ _ | refine Gr.trans ?_ (by with_reducible assumption)))⟩
  · rw [decide_eq_false (by omega)]
    have q0 : decide (1 ≤ s) = true := decide_eq_true h0
    have q1 : decide (s ≤ l) = true := decide_eq_true h1
    have q2 : decide (l ≤ 2147483647) = true := decide_eq_true h2
    have q3 : decide (0 ≤ g) = true := decide_eq_true h3
    have q4 : decide (g ≤ 2147483647) = false := decide_eq_false (by omega)
    clear h0 h1 h2 h3 h4
    go_enter Tryd.func60, Tryd.ntmps60
    go_wp2
    go_ret
    exact ⟨rfl, (by repeat (first | with_reducible exact Gr.refl _ | with_reducible assumption | refine Gr.setCell ?_ (by first | omega | (simp; done) | (simp; omega)) _ | refine Gr.alloc ?_ _ | refine Gr.drew ?_ | refine Gr.drewN ?_ _ | refine Gr.trans ?_ (by with_reducible assumption)))⟩
  · rw [decide_eq_false (by omega)]
    have q0 : decide (1 ≤ s) = true := decide_eq_true h0
    have q1 : decide (s ≤ l) = true := decide_eq_true h1
    have q2 : decide (l ≤ 2147483647) = true := decide_eq_true h2
    have q3 : decide (0 ≤ g) = true := decide_eq_true h3
    have q4 : decide (g ≤ 2147483647) = true := decide_eq_true h4
    have q5 : decide (1 ≤ k) = false := decide_eq_false (by omega)
    clear h0 h1 h2 h3 h4 h5
    go_enter Tryd.func60, Tryd.ntmps60
    go_wp2
    go_ret
    exact ⟨rfl, (by repeat (first | with_reducible exact Gr.refl _ | with_reducible assumption | refine Gr.setCell ?_ (by first | omega | (simp; done) | (simp; omega)) _ | refine Gr.alloc ?_ _ | refine Gr.drew ?_ | refine Gr.drewN ?_ _ | refine Gr.trans ?_ (by with_reducible assumption)))⟩
  · rw [decide_eq_false (by omega)]
    have q0 : decide (1 ≤ s) = true := decide_eq_true h0
    have q1 : decide (s ≤ l) = true := decide_eq_true h1
    have q2 : decide (l ≤ 2147483647) = true := decide_eq_true h2
    have q3 : decide (0 ≤ g) = true := decide_eq_true h3
    have q4 : decide (g ≤ 2147483647) = true := decide_eq_true h4
    have q5 : decide (1 ≤ k) = true := decide_eq_true h5
    have q6 : decide (k ≤ 64) = false := decide_eq_false (by omega)
    clear h0 h1 h2 h3 h4 h5 h6
    go_enter Tryd.func60, Tryd.ntmps60
    go_wp2
    go_ret
    exact ⟨rfl, (by repeat (first | with_reducible exact Gr.refl _ | with_reducible assumption | refine Gr.setCell ?_ (by first | omega | (simp; done) | (simp; omega)) _ | refine Gr.alloc ?_ _ | refine Gr.drew ?_ | refine Gr.drewN ?_ _ | refine Gr.trans ?_ (by with_reducible assumption)))⟩
  · rw [decide_eq_true (by omega)]
    have q0 : decide (1 ≤ s) = true := decide_eq_true h0
    have q1 : decide (s ≤ l) = true := decide_eq_true h1
    have q2 : decide (l ≤ 2147483647) = true := decide_eq_true h2
    have q3 : decide (0 ≤ g) = true := decide_eq_true h3
    have q4 : decide (g ≤ 2147483647) = true := decide_eq_true h4
    have q5 : decide (1 ≤ k) = true := decide_eq_true h5
    have q6 : decide (k ≤ 64) = true := decide_eq_true h6
    clear h0 h1 h2 h3 h4 h5 h6
    go_enter Tryd.func60, Tryd.ntmps60
    go_wp2
    go_ret
    exact ⟨rfl, (by repeat (first | with_reducible exact Gr.refl _ | with_reducible assumption | refine Gr.setCell ?_ (by first | omega | (simp; done) | (simp; omega)) _ | refine Gr.alloc ?_ _ | refine Gr.drew ?_ | refine Gr.drewN ?_ _ | refine Gr.trans ?_ (by with_reducible assumption)))⟩
set_option maxHeartbeats 2000000 in
theorem rrules_any (r : Ru) (w : World) : Calls Tryd.prog 67 #[r.val] w fun e w' => e = .returned (.bool (ruB r)) ∧ Gr w w' := by
  obtain ⟨s, l, g, k⟩ := r
  unfold Ru.val ruB
  show Calls Tryd.prog 67 #[.agg #[.int .i64 s, .int .i64 l, .int .i64 g, .int .i64 k]] w fun e w' => e = .returned (.bool (decide (1 ≤ s ∧ s ≤ l ∧ l ≤ 2147483647 ∧ 0 ≤ g ∧ g ≤ 2147483647 ∧ 1 ≤ k ∧ k ≤ 64))) ∧ Gr w w'
  rcases (show (s < 1) ∨ (1 ≤ s ∧ l < s) ∨ (1 ≤ s ∧ s ≤ l ∧ 2147483647 < l) ∨ (1 ≤ s ∧ s ≤ l ∧ l ≤ 2147483647 ∧ g < 0) ∨ (1 ≤ s ∧ s ≤ l ∧ l ≤ 2147483647 ∧ 0 ≤ g ∧ 2147483647 < g) ∨ (1 ≤ s ∧ s ≤ l ∧ l ≤ 2147483647 ∧ 0 ≤ g ∧ g ≤ 2147483647 ∧ k < 1) ∨ (1 ≤ s ∧ s ≤ l ∧ l ≤ 2147483647 ∧ 0 ≤ g ∧ g ≤ 2147483647 ∧ 1 ≤ k ∧ 64 < k) ∨ (1 ≤ s ∧ s ≤ l ∧ l ≤ 2147483647 ∧ 0 ≤ g ∧ g ≤ 2147483647 ∧ 1 ≤ k ∧ k ≤ 64) by omega) with h0 | ⟨h0, h1⟩ | ⟨h0, h1, h2⟩ | ⟨h0, h1, h2, h3⟩ | ⟨h0, h1, h2, h3, h4⟩ | ⟨h0, h1, h2, h3, h4, h5⟩ | ⟨h0, h1, h2, h3, h4, h5, h6⟩ | ⟨h0, h1, h2, h3, h4, h5, h6⟩
  · rw [decide_eq_false (by omega)]
    have q0 : decide (1 ≤ s) = false := decide_eq_false (by omega)
    clear h0
    go_enter Tryd.func67, Tryd.ntmps67
    go_wp2
    go_ret
    exact ⟨rfl, (by repeat (first | with_reducible exact Gr.refl _ | with_reducible assumption | refine Gr.setCell ?_ (by first | omega | (simp; done) | (simp; omega)) _ | refine Gr.alloc ?_ _ | refine Gr.drew ?_ | refine Gr.drewN ?_ _ | refine Gr.trans ?_ (by with_reducible assumption)))⟩
  · rw [decide_eq_false (by omega)]
    have q0 : decide (1 ≤ s) = true := decide_eq_true h0
    have q1 : decide (s ≤ l) = false := decide_eq_false (by omega)
    clear h0 h1
    go_enter Tryd.func67, Tryd.ntmps67
    go_wp2
    go_ret
    exact ⟨rfl, (by repeat (first | with_reducible exact Gr.refl _ | with_reducible assumption | refine Gr.setCell ?_ (by first | omega | (simp; done) | (simp; omega)) _ | refine Gr.alloc ?_ _ | refine Gr.drew ?_ | refine Gr.drewN ?_ _ | refine Gr.trans ?_ (by with_reducible assumption)))⟩
  · rw [decide_eq_false (by omega)]
    have q0 : decide (1 ≤ s) = true := decide_eq_true h0
    have q1 : decide (s ≤ l) = true := decide_eq_true h1
    have q2 : decide (l ≤ 2147483647) = false := decide_eq_false (by omega)
    clear h0 h1 h2
    go_enter Tryd.func67, Tryd.ntmps67
    go_wp2
    go_ret
    exact ⟨rfl, (by repeat (first | with_reducible exact Gr.refl _ | with_reducible assumption | refine Gr.setCell ?_ (by first | omega | (simp; done) | (simp; omega)) _ | refine Gr.alloc ?_ _ | refine Gr.drew ?_ | refine Gr.drewN ?_ _ | refine Gr.trans ?_ (by with_reducible assumption)))⟩
  · rw [decide_eq_false (by omega)]
    have q0 : decide (1 ≤ s) = true := decide_eq_true h0
    have q1 : decide (s ≤ l) = true := decide_eq_true h1
    have q2 : decide (l ≤ 2147483647) = true := decide_eq_true h2
    have q3 : decide (0 ≤ g) = false := decide_eq_false (by omega)
    clear h0 h1 h2 h3
    go_enter Tryd.func67, Tryd.ntmps67
    go_wp2
    go_ret
    exact ⟨rfl, (by repeat (first | with_reducible exact Gr.refl _ | with_reducible assumption | refine Gr.setCell ?_ (by first | omega | (simp; done) | (simp; omega)) _ | refine Gr.alloc ?_ _ | refine Gr.drew ?_ | refine Gr.drewN ?_ _ | refine Gr.trans ?_ (by with_reducible assumption)))⟩
  · rw [decide_eq_false (by omega)]
    have q0 : decide (1 ≤ s) = true := decide_eq_true h0
    have q1 : decide (s ≤ l) = true := decide_eq_true h1
    have q2 : decide (l ≤ 2147483647) = true := decide_eq_true h2
    have q3 : decide (0 ≤ g) = true := decide_eq_true h3
    have q4 : decide (g ≤ 2147483647) = false := decide_eq_false (by omega)
    clear h0 h1 h2 h3 h4
    go_enter Tryd.func67, Tryd.ntmps67
    go_wp2
    go_ret
    exact ⟨rfl, (by repeat (first | with_reducible exact Gr.refl _ | with_reducible assumption | refine Gr.setCell ?_ (by first | omega | (simp; done) | (simp; omega)) _ | refine Gr.alloc ?_ _ | refine Gr.drew ?_ | refine Gr.drewN ?_ _ | refine Gr.trans ?_ (by with_reducible assumption)))⟩
  · rw [decide_eq_false (by omega)]
    have q0 : decide (1 ≤ s) = true := decide_eq_true h0
    have q1 : decide (s ≤ l) = true := decide_eq_true h1
    have q2 : decide (l ≤ 2147483647) = true := decide_eq_true h2
    have q3 : decide (0 ≤ g) = true := decide_eq_true h3
    have q4 : decide (g ≤ 2147483647) = true := decide_eq_true h4
    have q5 : decide (1 ≤ k) = false := decide_eq_false (by omega)
    clear h0 h1 h2 h3 h4 h5
    go_enter Tryd.func67, Tryd.ntmps67
    go_wp2
    go_ret
    exact ⟨rfl, (by repeat (first | with_reducible exact Gr.refl _ | with_reducible assumption | refine Gr.setCell ?_ (by first | omega | (simp; done) | (simp; omega)) _ | refine Gr.alloc ?_ _ | refine Gr.drew ?_ | refine Gr.drewN ?_ _ | refine Gr.trans ?_ (by with_reducible assumption)))⟩
  · rw [decide_eq_false (by omega)]
    have q0 : decide (1 ≤ s) = true := decide_eq_true h0
    have q1 : decide (s ≤ l) = true := decide_eq_true h1
    have q2 : decide (l ≤ 2147483647) = true := decide_eq_true h2
    have q3 : decide (0 ≤ g) = true := decide_eq_true h3
    have q4 : decide (g ≤ 2147483647) = true := decide_eq_true h4
    have q5 : decide (1 ≤ k) = true := decide_eq_true h5
    have q6 : decide (k ≤ 64) = false := decide_eq_false (by omega)
    clear h0 h1 h2 h3 h4 h5 h6
    go_enter Tryd.func67, Tryd.ntmps67
    go_wp2
    go_ret
    exact ⟨rfl, (by repeat (first | with_reducible exact Gr.refl _ | with_reducible assumption | refine Gr.setCell ?_ (by first | omega | (simp; done) | (simp; omega)) _ | refine Gr.alloc ?_ _ | refine Gr.drew ?_ | refine Gr.drewN ?_ _ | refine Gr.trans ?_ (by with_reducible assumption)))⟩
  · rw [decide_eq_true (by omega)]
    have q0 : decide (1 ≤ s) = true := decide_eq_true h0
    have q1 : decide (s ≤ l) = true := decide_eq_true h1
    have q2 : decide (l ≤ 2147483647) = true := decide_eq_true h2
    have q3 : decide (0 ≤ g) = true := decide_eq_true h3
    have q4 : decide (g ≤ 2147483647) = true := decide_eq_true h4
    have q5 : decide (1 ≤ k) = true := decide_eq_true h5
    have q6 : decide (k ≤ 64) = true := decide_eq_true h6
    clear h0 h1 h2 h3 h4 h5 h6
    go_enter Tryd.func67, Tryd.ntmps67
    go_wp2
    go_ret
    exact ⟨rfl, (by repeat (first | with_reducible exact Gr.refl _ | with_reducible assumption | refine Gr.setCell ?_ (by first | omega | (simp; done) | (simp; omega)) _ | refine Gr.alloc ?_ _ | refine Gr.drew ?_ | refine Gr.drewN ?_ _ | refine Gr.trans ?_ (by with_reducible assumption)))⟩
end Go.Proofs.YtckmebfgianeoaaDoor
