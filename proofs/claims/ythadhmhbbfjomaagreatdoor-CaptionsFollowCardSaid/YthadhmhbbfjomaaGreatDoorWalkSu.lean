
/-
  Contracts: which rates are usable for captions.
  Conditions: the rate's numbers are int64.
-/
import Derived.Test.YthadhmhbbfjomaaGreatDoorWalkO
import Derived.Test.YthadhmhbbfjomaaGreatDoorKit
namespace Go.Proofs.YthadhmhbbfjomaaGreatDoor
open Go.RowKit Go.Lib
set_option linter.unusedSimpArgs false
set_option linter.unusedVariables false

/-- a usable rate -/
def usB (n d : Int) : Bool := vB n d && decide (1 ≤ n ∧ n ≤ 1048576 ∧ d ≤ 65536)
def suB (n d : Int) : Bool := usB n d && decide (n ≤ 240 * d)
theorem usable_any (n d : Int) (w : World) (hn : I64 n) (hd : I64 d) :
    Calls Tryz.prog 66 #[.agg #[.int .i64 n, .int .i64 d]] w fun e w' => e = .returned (.bool (usB n d)) ∧ Gr w w' := by
  have HV := Lib.hid (fun w => valid_any n d w hn hd)
  have hnew := Cel.new w #[.int .i64 n, .int .i64 d] 27
  cases hv : vB n d with
  | false =>
    rw [hv] at HV
    unfold usB
    rw [hv]
    go_enter Tryz.func66, Tryz.ntmps66
    go_wp2_with (go_at_call 74; (with_reducible refine (HV.out _).mono ?_); rintro e w1 ⟨rfl, hg1⟩)
    go_ret
    exact ⟨rfl, (by repeat (first | with_reducible exact Gr.refl _ | with_reducible assumption | refine Gr.setCell ?_ (by first | omega | (simp; done) | (simp; omega)) _ | refine Gr.alloc ?_ _ | refine Gr.drew ?_ | refine Gr.drewN ?_ _ | refine Gr.trans ?_ (by with_reducible assumption)))⟩
  | true =>
    rw [hv] at HV
    unfold usB
    rw [hv, Bool.true_and]
    rcases (show n < 1 ∨ (1 ≤ n ∧ 1048576 < n) ∨ (1 ≤ n ∧ n ≤ 1048576 ∧ 65536 < d) ∨ (1 ≤ n ∧ n ≤ 1048576 ∧ d ≤ 65536) by omega) with h | ⟨h1, h⟩ | ⟨h1, h2, h⟩ | ⟨h1, h2, h3⟩
    · have q1 : decide (1 ≤ n) = false := decide_eq_false (by omega)
      rw [decide_eq_false (by omega)]
      go_enter Tryz.func66, Tryz.ntmps66
      go_wp2_with (go_at_call 74; (with_reducible refine (HV.out _).mono ?_); rintro e w1 ⟨rfl, hg1⟩; have hc1 := hnew.gr hg1; have hc2 := hc1.two; obtain ⟨x0, x1, x2, x3, x4⟩ := hc2)
      go_ret
      exact ⟨rfl, (by repeat (first | with_reducible exact Gr.refl _ | with_reducible assumption | refine Gr.setCell ?_ (by first | omega | (simp; done) | (simp; omega)) _ | refine Gr.alloc ?_ _ | refine Gr.drew ?_ | refine Gr.drewN ?_ _ | refine Gr.trans ?_ (by with_reducible assumption)))⟩
    · have q1 : decide (1 ≤ n) = true := decide_eq_true (by omega); have q2 : decide (n ≤ 1048576) = false := decide_eq_false (by omega)
      rw [decide_eq_false (by omega)]
      go_enter Tryz.func66, Tryz.ntmps66
      go_wp2_with (go_at_call 74; (with_reducible refine (HV.out _).mono ?_); rintro e w1 ⟨rfl, hg1⟩; have hc1 := hnew.gr hg1; have hc2 := hc1.two; obtain ⟨x0, x1, x2, x3, x4⟩ := hc2)
      go_ret
      exact ⟨rfl, (by repeat (first | with_reducible exact Gr.refl _ | with_reducible assumption | refine Gr.setCell ?_ (by first | omega | (simp; done) | (simp; omega)) _ | refine Gr.alloc ?_ _ | refine Gr.drew ?_ | refine Gr.drewN ?_ _ | refine Gr.trans ?_ (by with_reducible assumption)))⟩
    · have q1 : decide (1 ≤ n) = true := decide_eq_true (by omega); have q2 : decide (n ≤ 1048576) = true := decide_eq_true (by omega); have q3 : decide (d ≤ 65536) = false := decide_eq_false (by omega)
      rw [decide_eq_false (by omega)]
      go_enter Tryz.func66, Tryz.ntmps66
      go_wp2_with (go_at_call 74; (with_reducible refine (HV.out _).mono ?_); rintro e w1 ⟨rfl, hg1⟩; have hc1 := hnew.gr hg1; have hc2 := hc1.two; obtain ⟨x0, x1, x2, x3, x4⟩ := hc2)
      go_ret
      exact ⟨rfl, (by repeat (first | with_reducible exact Gr.refl _ | with_reducible assumption | refine Gr.setCell ?_ (by first | omega | (simp; done) | (simp; omega)) _ | refine Gr.alloc ?_ _ | refine Gr.drew ?_ | refine Gr.drewN ?_ _ | refine Gr.trans ?_ (by with_reducible assumption)))⟩
    · have q1 : decide (1 ≤ n) = true := decide_eq_true (by omega); have q2 : decide (n ≤ 1048576) = true := decide_eq_true (by omega); have q3 : decide (d ≤ 65536) = true := decide_eq_true (by omega)
      rw [decide_eq_true (by omega)]
      go_enter Tryz.func66, Tryz.ntmps66
      go_wp2_with (go_at_call 74; (with_reducible refine (HV.out _).mono ?_); rintro e w1 ⟨rfl, hg1⟩; have hc1 := hnew.gr hg1; have hc2 := hc1.two; obtain ⟨x0, x1, x2, x3, x4⟩ := hc2)
      go_ret
      exact ⟨rfl, (by repeat (first | with_reducible exact Gr.refl _ | with_reducible assumption | refine Gr.setCell ?_ (by first | omega | (simp; done) | (simp; omega)) _ | refine Gr.alloc ?_ _ | refine Gr.drew ?_ | refine Gr.drewN ?_ _ | refine Gr.trans ?_ (by with_reducible assumption)))⟩

theorem suitable_any (n d : Int) (w : World) (hn : I64 n) (hd : I64 d) :
    Calls Tryz.prog 38 #[.agg #[.int .i64 n, .int .i64 d]] w fun e w' => e = .returned (.bool (suB n d)) ∧ Gr w w' := by
  have HV := Lib.hid (fun w => usable_any n d w hn hd)
  have hnew := Cel.new w #[.int .i64 n, .int .i64 d] 27
  unfold suB
  cases hv : usB n d with
  | false =>
    rw [hv] at HV
    go_enter Tryz.func38, Tryz.ntmps38
    go_wp2_with (go_at_call 66; (with_reducible refine (HV.out _).mono ?_); rintro e w1 ⟨rfl, hg1⟩)
    go_ret
    exact ⟨rfl, (by repeat (first | with_reducible exact Gr.refl _ | with_reducible assumption | refine Gr.setCell ?_ (by first | omega | (simp; done) | (simp; omega)) _ | refine Gr.alloc ?_ _ | refine Gr.drew ?_ | refine Gr.drewN ?_ _ | refine Gr.trans ?_ (by with_reducible assumption)))⟩
  | true =>
    have hb : 1 ≤ n ∧ n ≤ 1048576 ∧ d ≤ 65536 := by unfold usB at hv; simp only [Bool.and_eq_true, decide_eq_true_eq] at hv; exact hv.2
    have hb2 : 1 ≤ d := by unfold usB at hv; simp only [Bool.and_eq_true] at hv; exact (vB_inv hv.1).1
    rw [hv] at HV
    rw [Bool.true_and]
    obtain ⟨b, hbb⟩ : ∃ b, decide (n ≤ 240 * d) = b := ⟨_, rfl⟩
    rw [hbb]
    go_enter Tryz.func38, Tryz.ntmps38
    go_wp2_with (go_at_call 66; (with_reducible refine (HV.out _).mono ?_); rintro e w1 ⟨rfl, hg1⟩; have hc1 := hnew.gr hg1; have hc2 := hc1.two; obtain ⟨x0, x1, x2, x3, x4⟩ := hc2)
    go_ret
    exact ⟨rfl, (by repeat (first | with_reducible exact Gr.refl _ | with_reducible assumption | refine Gr.setCell ?_ (by first | omega | (simp; done) | (simp; omega)) _ | refine Gr.alloc ?_ _ | refine Gr.drew ?_ | refine Gr.drewN ?_ _ | refine Gr.trans ?_ (by with_reducible assumption)))⟩
theorem perSecond_any (w : World) : Calls Tryz.prog 68 #[] w fun e w' => e = .returned (.agg #[.int .i64 1000, .int .i64 1]) ∧ Gr w w' := by
  go_enter Tryz.func68, Tryz.ntmps68
  go_wp2
  simp [bodyPost, results, Tryz.results68, go_sem]
  exact (by repeat (first | with_reducible exact Gr.refl _ | with_reducible assumption | refine Gr.setCell ?_ (by first | omega | (simp; done) | (simp; omega)) _ | refine Gr.alloc ?_ _ | refine Gr.drew ?_ | refine Gr.drewN ?_ _ | refine Gr.trans ?_ (by with_reducible assumption)))
end Go.Proofs.YthadhmhbbfjomaaGreatDoor
