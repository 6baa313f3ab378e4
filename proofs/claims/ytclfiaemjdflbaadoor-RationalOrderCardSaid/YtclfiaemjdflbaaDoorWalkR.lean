/-
  Contracts of fraction and Add of package rational.
  Conditions: the arguments are integers of their kinds.
-/
import Derived.Test.YtclfiaemjdflbaaDoorWalkF
import Derived.Test.YtclfiaemjdflbaaDoorWalkI
import Derived.Test.YtclfiaemjdflbaaDoorReg3
import Derived.Test.YtclfiaemjdflbaaDoorMathH
namespace Go.Proofs.YtclfiaemjdflbaaDoor
open Go.RowKit
set_option linter.unusedSimpArgs false
set_option linter.unusedVariables false

theorem fraction_any (q D : Int) (w : World) (hq : I64 q) (hD : 0 ≤ D) (hf : Fit D) :
    Calls Tryd.prog 39 #[.int .i64 q, .agg #[.bool (wN D), .int .u64 (wH D), .int .u64 (wL D)]] w fun e w' =>
      e = .returned (.tuple #[.agg #[.int .i64 (if -9223372036854775807 ≤ q ∧ D ≤ 9223372036854775807 then q else 0), .int .i64 (if -9223372036854775807 ≤ q ∧ D ≤ 9223372036854775807 then D else 0)], .int .i64 (if -9223372036854775807 ≤ q ∧ D ≤ 9223372036854775807 then 0 else 2)]) ∧ Gr w w' := by
  obtain ⟨q1, q2⟩ := hq
  have e1 : D / 1 = D := Int.ediv_one D
  by_cases h : D ≤ 9223372036854775807
  · have HD := fun w => divide_any D 1 w hf (by omega) (by omega) true (decide_eq_true (by rw [e1]; omega))
    rw [e1] at HD
    simp only [if_true] at HD
    generalize D % 1 = r at *
    have HD := Lib.hid HD
    by_cases h2 : q = -9223372036854775808
    · subst h2
      simp only [show ¬ (-9223372036854775807 ≤ (-9223372036854775808 : Int)) by decide, false_and, if_false]
      clear e1 hf
      go_enter Tryd.func39, Tryd.ntmps39
      go_wp2_with (go_at_call 38; refine (HD.out _).mono ?_; rintro e w1 ⟨rfl, hg1⟩; obtain ⟨hc1, hf1⟩ := hg1.cells; have hz1 := hg1.size; (try simp at hz1); (try have hl1_0_0 : w.heap.size < w1.heap.size := by omega); (try have hm1_0_0 : w.heap.size ≤ w1.heap.size := by omega); (try have hl1_0_1 : w.heap.size + 1 < w1.heap.size := by omega); (try have hl1_0_2 : w.heap.size + 2 < w1.heap.size := by omega))
      simp [bodyPost, results, Tryd.results39, go_sem, hc1, hf1]
      exact (by repeat (first | refine Gr.setCell ?_ (by first | omega | (simp; done) | (simp; omega)) _ | refine Gr.alloc ?_ _ | refine Gr.drew ?_ | refine Gr.drewN ?_ _ | with_reducible assumption | with_reducible exact Gr.refl _ | refine Gr.trans ?_ (by with_reducible assumption)))
    · have h3 : -9223372036854775807 ≤ q := by omega
      have h4 : (q == -9223372036854775808) = false := by simpa using h2
      simp only [h3, h, and_self, if_true]
      clear e1 hf h2
      go_enter Tryd.func39, Tryd.ntmps39
      go_wp2_with (go_at_call 38; refine (HD.out _).mono ?_; rintro e w1 ⟨rfl, hg1⟩; obtain ⟨hc1, hf1⟩ := hg1.cells; have hz1 := hg1.size; (try simp at hz1); (try have hl1_0_0 : w.heap.size < w1.heap.size := by omega); (try have hm1_0_0 : w.heap.size ≤ w1.heap.size := by omega); (try have hl1_0_1 : w.heap.size + 1 < w1.heap.size := by omega); (try have hl1_0_2 : w.heap.size + 2 < w1.heap.size := by omega))
      simp [bodyPost, results, Tryd.results39, go_sem, hc1, hf1]
      exact (by repeat (first | refine Gr.setCell ?_ (by first | omega | (simp; done) | (simp; omega)) _ | refine Gr.alloc ?_ _ | refine Gr.drew ?_ | refine Gr.drewN ?_ _ | with_reducible assumption | with_reducible exact Gr.refl _ | refine Gr.trans ?_ (by with_reducible assumption)))
  · have HD := fun w => divide_any D 1 w hf (by omega) (by omega) false (decide_eq_false (by rw [e1]; omega))
    simp only [if_false, Bool.false_eq_true] at HD
    have HD := Lib.hid HD
    simp only [h, and_false, if_false]
    clear e1 hf
    go_enter Tryd.func39, Tryd.ntmps39
    go_wp2_with (go_at_call 38; refine (HD.out _).mono ?_; rintro e w1 ⟨rfl, hg1⟩; obtain ⟨hc1, hf1⟩ := hg1.cells; have hz1 := hg1.size; (try simp at hz1); (try have hl1_0_0 : w.heap.size < w1.heap.size := by omega); (try have hm1_0_0 : w.heap.size ≤ w1.heap.size := by omega); (try have hl1_0_1 : w.heap.size + 1 < w1.heap.size := by omega); (try have hl1_0_2 : w.heap.size + 2 < w1.heap.size := by omega))
    simp [bodyPost, results, Tryd.results39, go_sem, hc1, hf1]
    exact (by repeat (first | refine Gr.setCell ?_ (by first | omega | (simp; done) | (simp; omega)) _ | refine Gr.alloc ?_ _ | refine Gr.drew ?_ | refine Gr.drewN ?_ _ | with_reducible assumption | with_reducible exact Gr.refl _ | refine Gr.trans ?_ (by with_reducible assumption)))

theorem arith_no_add (an ad bn bd : Int) (b1 b2 : Bool) (w : World) (hb : b1 = false ∨ (b1 = true ∧ b2 = false))
    (HA : ∀ w, Calls Tryd.prog 17 #[.agg #[.int .i64 an, .int .i64 ad]] w fun e w' => e = .returned (.bool b1) ∧ Gr w w')
    (HB : ∀ w, Calls Tryd.prog 17 #[.agg #[.int .i64 bn, .int .i64 bd]] w fun e w' => e = .returned (.bool b2) ∧ Gr w w') :
    Calls Tryd.prog 25 #[.agg #[.int .i64 an, .int .i64 ad], .agg #[.int .i64 bn, .int .i64 bd]] w fun e w' => e = .returned (.tuple #[.agg #[.int .i64 0, .int .i64 0], .int .i64 1]) ∧ Gr w w' := by
  have HA := Lib.hid HA
  have HB := Lib.hid HB
  rcases hb with rfl | ⟨rfl, rfl⟩
  · go_enter Tryd.func25, Tryd.ntmps25
    go_wp2_with (go_at_call 17; with_reducible refine (HA.out _).mono ?_; rintro e w1 ⟨rfl, hg1⟩; obtain ⟨hc1, hf1⟩ := hg1.cells; have hz1 := hg1.size; (try simp at hz1); (try have hl1_0_0 : w.heap.size < w1.heap.size := by omega); (try have hm1_0_0 : w.heap.size ≤ w1.heap.size := by omega); (try have hl1_0_1 : w.heap.size + 1 < w1.heap.size := by omega); (try have hl1_0_2 : w.heap.size + 2 < w1.heap.size := by omega))
    simp [bodyPost, results, Tryd.results25, go_sem, hc1, hf1, hl1_0_0, hl1_0_1, hl1_0_2]
    exact (by repeat (first | refine Gr.setCell ?_ (by first | omega | (simp; done) | (simp; omega)) _ | refine Gr.alloc ?_ _ | refine Gr.drew ?_ | refine Gr.drewN ?_ _ | with_reducible assumption | with_reducible exact Gr.refl _ | refine Gr.trans ?_ (by with_reducible assumption)))
  · go_enter Tryd.func25, Tryd.ntmps25
    go_wp2_with (first
      | (go_at_call 17; with_reducible refine (HA.out _).mono ?_; rintro e w1 ⟨rfl, hg1⟩; obtain ⟨hc1, hf1⟩ := hg1.cells; have hz1 := hg1.size; (try simp at hz1); (try have hl1_0_0 : w.heap.size < w1.heap.size := by omega); (try have hm1_0_0 : w.heap.size ≤ w1.heap.size := by omega); (try have hl1_0_1 : w.heap.size + 1 < w1.heap.size := by omega); (try have hl1_0_2 : w.heap.size + 2 < w1.heap.size := by omega))
      | (go_at_call 17; with_reducible refine (HB.out _).mono ?_; rintro e w2 ⟨rfl, hg2⟩; obtain ⟨hc2, hf2⟩ := hg2.cells; have hz2 := hg2.size; (try simp at hz2); (try have hl2_0_0 : w.heap.size < w2.heap.size := by omega); (try have hm2_0_0 : w.heap.size ≤ w2.heap.size := by omega); (try have hl2_0_1 : w.heap.size + 1 < w2.heap.size := by omega); (try have hl2_0_2 : w.heap.size + 2 < w2.heap.size := by omega); (try have hl2_1_0 : w1.heap.size < w2.heap.size := by omega); (try have hm2_1_0 : w1.heap.size ≤ w2.heap.size := by omega); (try have hl2_1_1 : w1.heap.size + 1 < w2.heap.size := by omega); (try have hl2_1_2 : w1.heap.size + 2 < w2.heap.size := by omega)))
    simp [bodyPost, results, Tryd.results25, go_sem, hc1, hf1, hc2, hf2, hl1_0_0, hl1_0_1, hl1_0_2, hl2_0_0, hl2_0_1, hl2_0_2]
    exact (by repeat (first | refine Gr.setCell ?_ (by first | omega | (simp; done) | (simp; omega)) _ | refine Gr.alloc ?_ _ | refine Gr.drew ?_ | refine Gr.drewN ?_ _ | with_reducible assumption | with_reducible exact Gr.refl _ | refine Gr.trans ?_ (by with_reducible assumption)))
theorem arith_no_sub (an ad bn bd : Int) (b1 b2 : Bool) (w : World) (hb : b1 = false ∨ (b1 = true ∧ b2 = false))
    (HA : ∀ w, Calls Tryd.prog 17 #[.agg #[.int .i64 an, .int .i64 ad]] w fun e w' => e = .returned (.bool b1) ∧ Gr w w')
    (HB : ∀ w, Calls Tryd.prog 17 #[.agg #[.int .i64 bn, .int .i64 bd]] w fun e w' => e = .returned (.bool b2) ∧ Gr w w') :
    Calls Tryd.prog 10 #[.agg #[.int .i64 an, .int .i64 ad], .agg #[.int .i64 bn, .int .i64 bd]] w fun e w' => e = .returned (.tuple #[.agg #[.int .i64 0, .int .i64 0], .int .i64 1]) ∧ Gr w w' := by
  have HA := Lib.hid HA
  have HB := Lib.hid HB
  rcases hb with rfl | ⟨rfl, rfl⟩
  · go_enter Tryd.func10, Tryd.ntmps10
    go_wp2_with (go_at_call 17; with_reducible refine (HA.out _).mono ?_; rintro e w1 ⟨rfl, hg1⟩; obtain ⟨hc1, hf1⟩ := hg1.cells; have hz1 := hg1.size; (try simp at hz1); (try have hl1_0_0 : w.heap.size < w1.heap.size := by omega); (try have hm1_0_0 : w.heap.size ≤ w1.heap.size := by omega); (try have hl1_0_1 : w.heap.size + 1 < w1.heap.size := by omega); (try have hl1_0_2 : w.heap.size + 2 < w1.heap.size := by omega))
    simp [bodyPost, results, Tryd.results10, go_sem, hc1, hf1, hl1_0_0, hl1_0_1, hl1_0_2]
    exact (by repeat (first | refine Gr.setCell ?_ (by first | omega | (simp; done) | (simp; omega)) _ | refine Gr.alloc ?_ _ | refine Gr.drew ?_ | refine Gr.drewN ?_ _ | with_reducible assumption | with_reducible exact Gr.refl _ | refine Gr.trans ?_ (by with_reducible assumption)))
  · go_enter Tryd.func10, Tryd.ntmps10
    go_wp2_with (first
      | (go_at_call 17; with_reducible refine (HA.out _).mono ?_; rintro e w1 ⟨rfl, hg1⟩; obtain ⟨hc1, hf1⟩ := hg1.cells; have hz1 := hg1.size; (try simp at hz1); (try have hl1_0_0 : w.heap.size < w1.heap.size := by omega); (try have hm1_0_0 : w.heap.size ≤ w1.heap.size := by omega); (try have hl1_0_1 : w.heap.size + 1 < w1.heap.size := by omega); (try have hl1_0_2 : w.heap.size + 2 < w1.heap.size := by omega))
      | (go_at_call 17; with_reducible refine (HB.out _).mono ?_; rintro e w2 ⟨rfl, hg2⟩; obtain ⟨hc2, hf2⟩ := hg2.cells; have hz2 := hg2.size; (try simp at hz2); (try have hl2_0_0 : w.heap.size < w2.heap.size := by omega); (try have hm2_0_0 : w.heap.size ≤ w2.heap.size := by omega); (try have hl2_0_1 : w.heap.size + 1 < w2.heap.size := by omega); (try have hl2_0_2 : w.heap.size + 2 < w2.heap.size := by omega); (try have hl2_1_0 : w1.heap.size < w2.heap.size := by omega); (try have hm2_1_0 : w1.heap.size ≤ w2.heap.size := by omega); (try have hl2_1_1 : w1.heap.size + 1 < w2.heap.size := by omega); (try have hl2_1_2 : w1.heap.size + 2 < w2.heap.size := by omega)))
    simp [bodyPost, results, Tryd.results10, go_sem, hc1, hf1, hc2, hf2, hl1_0_0, hl1_0_1, hl1_0_2, hl2_0_0, hl2_0_1, hl2_0_2]
    exact (by repeat (first | refine Gr.setCell ?_ (by first | omega | (simp; done) | (simp; omega)) _ | refine Gr.alloc ?_ _ | refine Gr.drew ?_ | refine Gr.drewN ?_ _ | with_reducible assumption | with_reducible exact Gr.refl _ | refine Gr.trans ?_ (by with_reducible assumption)))
end Go.Proofs.YtclfiaemjdflbaaDoor
