/-
  Contracts: which events are valid, of package edl and of the reference.
  Conditions: the arguments are integers of their kinds.
-/
import Derived.Test.YtgbiodnfpbhjiaaGreatDoorWalkEa
namespace Go.Proofs.YtgbiodnfpbhjiaaGreatDoor
open Go.RowKit Go.Lib
set_option linter.unusedSimpArgs false
set_option linter.unusedVariables false

def Ev.cells (e : Ev) : List Value := [.int .i64 e.k, .int .i64 e.p, .int .i64 e.fr, .string e.reel, .int .i64 e.i, .int .i64 e.o, .int .i64 e.f, .int .i64 e.t]
def Ev.val (e : Ev) : Value := .agg #[.int .i64 e.k, .int .i64 e.p, .int .i64 e.fr, .string e.reel, .int .i64 e.i, .int .i64 e.o, .int .i64 e.f, .int .i64 e.t]

set_option maxHeartbeats 2000000 in
theorem vkind_any (e : Ev) (w : World) : Calls Tryz.prog 80 #[e.val] w fun en w' => en = .returned (.bool (vKd e)) ∧ Gr w w' := by
  obtain ⟨k, p, fr, reel, i, o, f, t⟩ := e
  unfold vKd Ev.val
  simp only
  by_cases h0 : k = 0
  · subst h0
    rw [decide_eq_false (by omega : ¬ ((0 : Int) = 1 ∧ 1 ≤ fr ∧ fr ≤ 999 ∧ p = 0)), decide_eq_false (by omega : ¬ ((0 : Int) = 2 ∧ 1 ≤ fr ∧ fr ≤ 999 ∧ 0 ≤ p ∧ p ≤ 3))]
    by_cases h1 : fr = 0
    · have q1 : (fr == 0) = true := by simp [h1]
      by_cases h2 : p = 0
      · have q2 : (p == 0) = true := by simp [h2]
        rw [decide_eq_true (by omega : (0 : Int) = 0 ∧ fr = 0 ∧ p = 0)]
        go_enter Tryz.func80, Tryz.ntmps80
        go_wp2
        go_ret
        exact ⟨by simp [h1, h2], (by repeat (first | with_reducible exact Gr.refl _ | with_reducible assumption | refine Gr.setCell ?_ (by first | omega | (simp; done) | (simp; omega)) _ | refine Gr.alloc ?_ _ | refine Gr.drew ?_ | refine Gr.drewN ?_ _ | refine Gr.trans ?_ (by with_reducible assumption)))⟩
      · have q2 : (p == 0) = false := by simp [h2]
        rw [decide_eq_false (by omega : ¬ ((0 : Int) = 0 ∧ fr = 0 ∧ p = 0))]
        go_enter Tryz.func80, Tryz.ntmps80
        go_wp2
        go_ret
        exact ⟨by simp [h1, h2], (by repeat (first | with_reducible exact Gr.refl _ | with_reducible assumption | refine Gr.setCell ?_ (by first | omega | (simp; done) | (simp; omega)) _ | refine Gr.alloc ?_ _ | refine Gr.drew ?_ | refine Gr.drewN ?_ _ | refine Gr.trans ?_ (by with_reducible assumption)))⟩
    · have q1 : (fr == 0) = false := by simp [h1]
      rw [decide_eq_false (by omega : ¬ ((0 : Int) = 0 ∧ fr = 0 ∧ p = 0))]
      go_enter Tryz.func80, Tryz.ntmps80
      go_wp2
      go_ret
      exact ⟨by simp [h1], (by repeat (first | with_reducible exact Gr.refl _ | with_reducible assumption | refine Gr.setCell ?_ (by first | omega | (simp; done) | (simp; omega)) _ | refine Gr.alloc ?_ _ | refine Gr.drew ?_ | refine Gr.drewN ?_ _ | refine Gr.trans ?_ (by with_reducible assumption)))⟩
  by_cases h1 : k = 1
  · subst h1
    rw [decide_eq_false (by omega : ¬ ((1 : Int) = 0 ∧ fr = 0 ∧ p = 0)), decide_eq_false (by omega : ¬ ((1 : Int) = 2 ∧ 1 ≤ fr ∧ fr ≤ 999 ∧ 0 ≤ p ∧ p ≤ 3))]
    by_cases h2 : 1 ≤ fr
    · have q1 : decide (1 ≤ fr) = true := decide_eq_true h2
      by_cases h3 : fr ≤ 999
      · have q2 : decide (fr ≤ 999) = true := decide_eq_true h3
        by_cases h4 : p = 0
        · have q3 : (p == 0) = true := by simp [h4]
          rw [decide_eq_true (by omega : (1 : Int) = 1 ∧ 1 ≤ fr ∧ fr ≤ 999 ∧ p = 0)]
          go_enter Tryz.func80, Tryz.ntmps80
          go_wp2
          go_ret
          exact ⟨by simp [h4], (by repeat (first | with_reducible exact Gr.refl _ | with_reducible assumption | refine Gr.setCell ?_ (by first | omega | (simp; done) | (simp; omega)) _ | refine Gr.alloc ?_ _ | refine Gr.drew ?_ | refine Gr.drewN ?_ _ | refine Gr.trans ?_ (by with_reducible assumption)))⟩
        · have q3 : (p == 0) = false := by simp [h4]
          rw [decide_eq_false (by omega : ¬ ((1 : Int) = 1 ∧ 1 ≤ fr ∧ fr ≤ 999 ∧ p = 0))]
          go_enter Tryz.func80, Tryz.ntmps80
          go_wp2
          go_ret
          exact ⟨by simp [h4], (by repeat (first | with_reducible exact Gr.refl _ | with_reducible assumption | refine Gr.setCell ?_ (by first | omega | (simp; done) | (simp; omega)) _ | refine Gr.alloc ?_ _ | refine Gr.drew ?_ | refine Gr.drewN ?_ _ | refine Gr.trans ?_ (by with_reducible assumption)))⟩
      · have q2 : decide (fr ≤ 999) = false := decide_eq_false h3
        rw [decide_eq_false (by omega : ¬ ((1 : Int) = 1 ∧ 1 ≤ fr ∧ fr ≤ 999 ∧ p = 0))]
        go_enter Tryz.func80, Tryz.ntmps80
        go_wp2
        go_ret
        exact ⟨by simp [h3], (by repeat (first | with_reducible exact Gr.refl _ | with_reducible assumption | refine Gr.setCell ?_ (by first | omega | (simp; done) | (simp; omega)) _ | refine Gr.alloc ?_ _ | refine Gr.drew ?_ | refine Gr.drewN ?_ _ | refine Gr.trans ?_ (by with_reducible assumption)))⟩
    · have q1 : decide (1 ≤ fr) = false := decide_eq_false h2
      rw [decide_eq_false (by omega : ¬ ((1 : Int) = 1 ∧ 1 ≤ fr ∧ fr ≤ 999 ∧ p = 0))]
      go_enter Tryz.func80, Tryz.ntmps80
      go_wp2
      go_ret
      exact ⟨by simp [h2], (by repeat (first | with_reducible exact Gr.refl _ | with_reducible assumption | refine Gr.setCell ?_ (by first | omega | (simp; done) | (simp; omega)) _ | refine Gr.alloc ?_ _ | refine Gr.drew ?_ | refine Gr.drewN ?_ _ | refine Gr.trans ?_ (by with_reducible assumption)))⟩
  by_cases h2 : k = 2
  · subst h2
    rw [decide_eq_false (by omega : ¬ ((2 : Int) = 0 ∧ fr = 0 ∧ p = 0)), decide_eq_false (by omega : ¬ ((2 : Int) = 1 ∧ 1 ≤ fr ∧ fr ≤ 999 ∧ p = 0))]
    by_cases h2 : 1 ≤ fr
    · have q1 : decide (1 ≤ fr) = true := decide_eq_true h2
      by_cases h3 : fr ≤ 999
      · have q2 : decide (fr ≤ 999) = true := decide_eq_true h3
        by_cases h4 : 0 ≤ p
        · have q3 : decide (0 ≤ p) = true := decide_eq_true h4
          by_cases h5 : p ≤ 3
          · have q4 : decide (p ≤ 3) = true := decide_eq_true h5
            rw [decide_eq_true (by omega : (2 : Int) = 2 ∧ 1 ≤ fr ∧ fr ≤ 999 ∧ 0 ≤ p ∧ p ≤ 3)]
            go_enter Tryz.func80, Tryz.ntmps80
            go_wp2
            go_ret
            exact ⟨by simp [h5], (by repeat (first | with_reducible exact Gr.refl _ | with_reducible assumption | refine Gr.setCell ?_ (by first | omega | (simp; done) | (simp; omega)) _ | refine Gr.alloc ?_ _ | refine Gr.drew ?_ | refine Gr.drewN ?_ _ | refine Gr.trans ?_ (by with_reducible assumption)))⟩
          · have q4 : decide (p ≤ 3) = false := decide_eq_false h5
            rw [decide_eq_false (by omega : ¬ ((2 : Int) = 2 ∧ 1 ≤ fr ∧ fr ≤ 999 ∧ 0 ≤ p ∧ p ≤ 3))]
            go_enter Tryz.func80, Tryz.ntmps80
            go_wp2
            go_ret
            exact ⟨by simp [h5], (by repeat (first | with_reducible exact Gr.refl _ | with_reducible assumption | refine Gr.setCell ?_ (by first | omega | (simp; done) | (simp; omega)) _ | refine Gr.alloc ?_ _ | refine Gr.drew ?_ | refine Gr.drewN ?_ _ | refine Gr.trans ?_ (by with_reducible assumption)))⟩
        · have q3 : decide (0 ≤ p) = false := decide_eq_false h4
          rw [decide_eq_false (by omega : ¬ ((2 : Int) = 2 ∧ 1 ≤ fr ∧ fr ≤ 999 ∧ 0 ≤ p ∧ p ≤ 3))]
          go_enter Tryz.func80, Tryz.ntmps80
          go_wp2
          go_ret
          exact ⟨by simp [h4], (by repeat (first | with_reducible exact Gr.refl _ | with_reducible assumption | refine Gr.setCell ?_ (by first | omega | (simp; done) | (simp; omega)) _ | refine Gr.alloc ?_ _ | refine Gr.drew ?_ | refine Gr.drewN ?_ _ | refine Gr.trans ?_ (by with_reducible assumption)))⟩
      · have q2 : decide (fr ≤ 999) = false := decide_eq_false h3
        rw [decide_eq_false (by omega : ¬ ((2 : Int) = 2 ∧ 1 ≤ fr ∧ fr ≤ 999 ∧ 0 ≤ p ∧ p ≤ 3))]
        go_enter Tryz.func80, Tryz.ntmps80
        go_wp2
        go_ret
        exact ⟨by simp [h3], (by repeat (first | with_reducible exact Gr.refl _ | with_reducible assumption | refine Gr.setCell ?_ (by first | omega | (simp; done) | (simp; omega)) _ | refine Gr.alloc ?_ _ | refine Gr.drew ?_ | refine Gr.drewN ?_ _ | refine Gr.trans ?_ (by with_reducible assumption)))⟩
    · have q1 : decide (1 ≤ fr) = false := decide_eq_false h2
      rw [decide_eq_false (by omega : ¬ ((2 : Int) = 2 ∧ 1 ≤ fr ∧ fr ≤ 999 ∧ 0 ≤ p ∧ p ≤ 3))]
      go_enter Tryz.func80, Tryz.ntmps80
      go_wp2
      go_ret
      exact ⟨by simp [h2], (by repeat (first | with_reducible exact Gr.refl _ | with_reducible assumption | refine Gr.setCell ?_ (by first | omega | (simp; done) | (simp; omega)) _ | refine Gr.alloc ?_ _ | refine Gr.drew ?_ | refine Gr.drewN ?_ _ | refine Gr.trans ?_ (by with_reducible assumption)))⟩
  · have q0 : (k == 0) = false := by simp [h0]
    have q1 : (k == 1) = false := by simp [h1]
    have q2 : (k == 2) = false := by simp [h2]
    rw [decide_eq_false (by omega : ¬ (k = 0 ∧ fr = 0 ∧ p = 0)), decide_eq_false (by omega : ¬ (k = 1 ∧ 1 ≤ fr ∧ fr ≤ 999 ∧ p = 0)), decide_eq_false (by omega : ¬ (k = 2 ∧ 1 ≤ fr ∧ fr ≤ 999 ∧ 0 ≤ p ∧ p ≤ 3))]
    go_enter Tryz.func80, Tryz.ntmps80
    go_wp2
    go_ret
    exact ⟨rfl, (by repeat (first | with_reducible exact Gr.refl _ | with_reducible assumption | refine Gr.setCell ?_ (by first | omega | (simp; done) | (simp; omega)) _ | refine Gr.alloc ?_ _ | refine Gr.drew ?_ | refine Gr.drewN ?_ _ | refine Gr.trans ?_ (by with_reducible assumption)))⟩
end Go.Proofs.YtgbiodnfpbhjiaaGreatDoor
