/-
  Walk of the law TimecodeOrder: it returns true.
  Conditions: none beyond the kinds of the arguments.
-/
import Derived.Test.YtehdkoillpebgaaWalk19Q
import Derived.Test.YtehdkoillpebgaaWalk19L
import Derived.Test.YtehdkoillpebgaaMath19G
namespace Go.Proofs.Ytehdkoillpebgaa
open Go.RowKit
set_option linter.unusedSimpArgs false
set_option linter.unusedVariables false

set_option maxHeartbeats 1000000 in
theorem order_core (n b x0 x1 x2 x3 y0 y1 y2 y3 : Int) (d : Bool) (w : World) (hn1 : -9223372036854775808 ≤ n) (hn2 : n < 9223372036854775807)
    (HX : ∀ w, Calls Try.prog 23 #[.int .i64 n, .int .i64 b, .bool d] w fun e w' => e = .returned (.tuple #[.agg #[.int .i64 x0, .int .i64 x1, .int .i64 x2, .int .i64 x3, .int .i64 b, .bool d], .int .i64 0]) ∧ Gr w w')
    (HY : ∀ w, Calls Try.prog 23 #[.int .i64 (n + 1), .int .i64 b, .bool d] w fun e w' => e = .returned (.tuple #[.agg #[.int .i64 y0, .int .i64 y1, .int .i64 y2, .int .i64 y3, .int .i64 b, .bool d], .int .i64 0]) ∧ Gr w w')
    (h : (y0 = 0 ∧ y1 = 0 ∧ y2 = 0 ∧ y3 = 0 ∧ lexB x0 x1 x2 x3 y0 y1 y2 y3 = false) ∨ ((y0 ≠ 0 ∨ (y0 = 0 ∧ y1 ≠ 0) ∨ (y0 = 0 ∧ y1 = 0 ∧ y2 ≠ 0) ∨ (y0 = 0 ∧ y1 = 0 ∧ y2 = 0 ∧ y3 ≠ 0)) ∧ lexB x0 x1 x2 x3 y0 y1 y2 y3 = true)) :
    Calls Try.prog 8 #[.int .i64 n, .int .i64 b, .bool d] w fun e w' => e = .returned (.bool true) ∧ Gr w w' := by
  have hx : (n == 9223372036854775807) = false := by simp; omega
  have HX := Lib.hid HX
  have HY := Lib.hid HY
  have HL := Lib.hid (fun w => less_any x0 x1 x2 x3 b y0 y1 y2 y3 b d d w)
  rcases h with ⟨rfl, rfl, rfl, rfl, h⟩ | ⟨h0, h⟩
  · rw [h] at HL
    clear h
    go_enter Try.func8, Try.ntmps8
    go_wp2_with (first
      | (go_at_call 23; with_reducible refine (HX.out _).mono ?_; rintro e w1 ⟨rfl, hg1⟩; obtain ⟨hc1, hf1⟩ := hg1.cells; have hz1 := hg1.size; (try simp at hz1); (try have hl1_0_0 : w.heap.size < w1.heap.size := by omega); (try have hm1_0_0 : w.heap.size ≤ w1.heap.size := by omega); (try have hl1_0_1 : w.heap.size + 1 < w1.heap.size := by omega); (try have hl1_0_2 : w.heap.size + 2 < w1.heap.size := by omega))
      | (go_at_call 23; with_reducible refine (HY.out _).mono ?_; rintro e w2 ⟨rfl, hg2⟩; obtain ⟨hc2, hf2⟩ := hg2.cells; have hz2 := hg2.size; (try simp at hz2); (try have hl2_0_0 : w.heap.size < w2.heap.size := by omega); (try have hm2_0_0 : w.heap.size ≤ w2.heap.size := by omega); (try have hl2_0_1 : w.heap.size + 1 < w2.heap.size := by omega); (try have hl2_0_2 : w.heap.size + 2 < w2.heap.size := by omega); (try have hl2_1_0 : w1.heap.size < w2.heap.size := by omega); (try have hm2_1_0 : w1.heap.size ≤ w2.heap.size := by omega); (try have hl2_1_1 : w1.heap.size + 1 < w2.heap.size := by omega); (try have hl2_1_2 : w1.heap.size + 2 < w2.heap.size := by omega))
      | (go_at_call 27; refine (HL.out _).mono ?_; rintro e w3 ⟨rfl, hg3⟩; obtain ⟨hc3, hf3⟩ := hg3.cells; have hz3 := hg3.size; (try simp at hz3); (try have hl3_0_0 : w.heap.size < w3.heap.size := by omega); (try have hm3_0_0 : w.heap.size ≤ w3.heap.size := by omega); (try have hl3_0_1 : w.heap.size + 1 < w3.heap.size := by omega); (try have hl3_0_2 : w.heap.size + 2 < w3.heap.size := by omega); (try have hl3_1_0 : w1.heap.size < w3.heap.size := by omega); (try have hm3_1_0 : w1.heap.size ≤ w3.heap.size := by omega); (try have hl3_1_1 : w1.heap.size + 1 < w3.heap.size := by omega); (try have hl3_1_2 : w1.heap.size + 2 < w3.heap.size := by omega); (try have hl3_2_0 : w2.heap.size < w3.heap.size := by omega); (try have hm3_2_0 : w2.heap.size ≤ w3.heap.size := by omega); (try have hl3_2_1 : w2.heap.size + 1 < w3.heap.size := by omega); (try have hl3_2_2 : w2.heap.size + 2 < w3.heap.size := by omega))
      | (go_at_call 20; refine (awake_any _).mono ?_; rintro e w5 ⟨rfl, hg5⟩))
    go_ret
    exact ⟨ret_bool rfl, (by repeat (first | refine Gr.setCell ?_ (by first | omega | (simp; done) | (simp; omega)) _ | refine Gr.alloc ?_ _ | refine Gr.drew ?_ | refine Gr.drewN ?_ _ | with_reducible assumption | with_reducible exact Gr.refl _ | refine Gr.trans ?_ (by with_reducible assumption)))⟩
  · rw [h] at HL
    clear h
    rcases h0 with h0 | ⟨rfl, h0⟩ | ⟨rfl, rfl, h0⟩ | ⟨rfl, rfl, rfl, h0⟩
    all_goals
      go_enter Try.func8, Try.ntmps8
      go_wp2_with (first
        | (go_at_call 23; with_reducible refine (HX.out _).mono ?_; rintro e w1 ⟨rfl, hg1⟩; obtain ⟨hc1, hf1⟩ := hg1.cells; have hz1 := hg1.size; (try simp at hz1); (try have hl1_0_0 : w.heap.size < w1.heap.size := by omega); (try have hm1_0_0 : w.heap.size ≤ w1.heap.size := by omega); (try have hl1_0_1 : w.heap.size + 1 < w1.heap.size := by omega); (try have hl1_0_2 : w.heap.size + 2 < w1.heap.size := by omega))
        | (go_at_call 23; with_reducible refine (HY.out _).mono ?_; rintro e w2 ⟨rfl, hg2⟩; obtain ⟨hc2, hf2⟩ := hg2.cells; have hz2 := hg2.size; (try simp at hz2); (try have hl2_0_0 : w.heap.size < w2.heap.size := by omega); (try have hm2_0_0 : w.heap.size ≤ w2.heap.size := by omega); (try have hl2_0_1 : w.heap.size + 1 < w2.heap.size := by omega); (try have hl2_0_2 : w.heap.size + 2 < w2.heap.size := by omega); (try have hl2_1_0 : w1.heap.size < w2.heap.size := by omega); (try have hm2_1_0 : w1.heap.size ≤ w2.heap.size := by omega); (try have hl2_1_1 : w1.heap.size + 1 < w2.heap.size := by omega); (try have hl2_1_2 : w1.heap.size + 2 < w2.heap.size := by omega))
        | (go_at_call 27; refine (HL.out _).mono ?_; rintro e w3 ⟨rfl, hg3⟩; obtain ⟨hc3, hf3⟩ := hg3.cells; have hz3 := hg3.size; (try simp at hz3); (try have hl3_0_0 : w.heap.size < w3.heap.size := by omega); (try have hm3_0_0 : w.heap.size ≤ w3.heap.size := by omega); (try have hl3_0_1 : w.heap.size + 1 < w3.heap.size := by omega); (try have hl3_0_2 : w.heap.size + 2 < w3.heap.size := by omega); (try have hl3_1_0 : w1.heap.size < w3.heap.size := by omega); (try have hm3_1_0 : w1.heap.size ≤ w3.heap.size := by omega); (try have hl3_1_1 : w1.heap.size + 1 < w3.heap.size := by omega); (try have hl3_1_2 : w1.heap.size + 2 < w3.heap.size := by omega); (try have hl3_2_0 : w2.heap.size < w3.heap.size := by omega); (try have hm3_2_0 : w2.heap.size ≤ w3.heap.size := by omega); (try have hl3_2_1 : w2.heap.size + 1 < w3.heap.size := by omega); (try have hl3_2_2 : w2.heap.size + 2 < w3.heap.size := by omega))
        | (go_at_call 20; refine (awake_any _).mono ?_; rintro e w5 ⟨rfl, hg5⟩))
      go_ret
      exact ⟨ret_bool rfl, (by repeat (first | refine Gr.setCell ?_ (by first | omega | (simp; done) | (simp; omega)) _ | refine Gr.alloc ?_ _ | refine Gr.drew ?_ | refine Gr.drewN ?_ _ | with_reducible assumption | with_reducible exact Gr.refl _ | refine Gr.trans ?_ (by with_reducible assumption)))⟩

set_option maxHeartbeats 1000000 in
theorem lawOrder_walk (n b : Int) (d : Bool) (w : World) (hn : I64 n) :
    Calls Try.prog 8 #[.int .i64 n, .int .i64 b, .bool d] w fun e w' => e = .returned (.bool true) ∧ Gr w w' := by
  obtain ⟨n1, n2⟩ := hn
  by_cases hm : n = 9223372036854775807
  · subst hm
    go_enter Try.func8, Try.ntmps8
    go_wp2_with (go_at_call 20; refine (awake_any _).mono ?_; rintro e w5 ⟨rfl, hg5⟩)
    go_ret
    exact ⟨ret_bool rfl, (by repeat (first | refine Gr.setCell ?_ (by first | omega | (simp; done) | (simp; omega)) _ | refine Gr.alloc ?_ _ | refine Gr.drew ?_ | refine Gr.drewN ?_ _ | with_reducible assumption | with_reducible exact Gr.refl _ | refine Gr.trans ?_ (by with_reducible assumption)))⟩
  · by_cases ho : okB b d = true
    · have bb := okB_bounds ho
      refine order_core n b _ _ _ _ _ _ _ _ d w n1 (by omega) (fun w => label_any n b d w ⟨n1, n2⟩ ho) (fun w => label_any (n + 1) b d w ⟨by omega, by omega⟩ ho) ?_
      rcases next_label (n := n) ho with ⟨e1, e2, e3, e4⟩ | ⟨e1, e2, e3, e4, e5⟩
      · left
        rw [e1, e2]
        have z1 : (0 : Int) / b = 0 := Int.zero_ediv b
        have z2 : (0 : Int) % b = 0 := Int.zero_emod b
        have q1 : 0 ≤ lf n b d / b := Int.ediv_nonneg e4 (by omega)
        have q2 : 0 ≤ lf n b d % b := Int.emod_nonneg _ (by omega)
        refine ⟨rfl, rfl, z1, z2, decide_eq_false ?_⟩
        rw [z1, z2]
        omega
      · right
        exact ⟨zero_parts (by omega) e2 e3 e1, decide_eq_true (lex_parts (by omega) e5)⟩
    · have ho : okB b d = false := by simpa using ho
      have hx : (n == 9223372036854775807) = false := by simp; omega
      have H1 := Lib.hid (fun w => label_no n b d w ho)
      have H2 := Lib.hid (fun w => label_no (n + 1) b d w ho)
      clear ho
      go_enter Try.func8, Try.ntmps8
      go_wp2_with (first
        | (go_at_call 23; with_reducible refine (H1.out _).mono ?_; rintro e w1 ⟨rfl, hg1⟩; obtain ⟨hc1, hf1⟩ := hg1.cells; have hz1 := hg1.size; (try simp at hz1); (try have hl1_0_0 : w.heap.size < w1.heap.size := by omega); (try have hm1_0_0 : w.heap.size ≤ w1.heap.size := by omega); (try have hl1_0_1 : w.heap.size + 1 < w1.heap.size := by omega); (try have hl1_0_2 : w.heap.size + 2 < w1.heap.size := by omega))
        | (go_at_call 23; with_reducible refine (H2.out _).mono ?_; rintro e w2 ⟨rfl, hg2⟩; obtain ⟨hc2, hf2⟩ := hg2.cells; have hz2 := hg2.size; (try simp at hz2); (try have hl2_0_0 : w.heap.size < w2.heap.size := by omega); (try have hm2_0_0 : w.heap.size ≤ w2.heap.size := by omega); (try have hl2_0_1 : w.heap.size + 1 < w2.heap.size := by omega); (try have hl2_0_2 : w.heap.size + 2 < w2.heap.size := by omega); (try have hl2_1_0 : w1.heap.size < w2.heap.size := by omega); (try have hm2_1_0 : w1.heap.size ≤ w2.heap.size := by omega); (try have hl2_1_1 : w1.heap.size + 1 < w2.heap.size := by omega); (try have hl2_1_2 : w1.heap.size + 2 < w2.heap.size := by omega))
        | (go_at_call 20; refine (awake_any _).mono ?_; rintro e w5 ⟨rfl, hg5⟩))
      go_ret
      exact ⟨ret_bool rfl, (by repeat (first | refine Gr.setCell ?_ (by first | omega | (simp; done) | (simp; omega)) _ | refine Gr.alloc ?_ _ | refine Gr.drew ?_ | refine Gr.drewN ?_ _ | with_reducible assumption | with_reducible exact Gr.refl _ | refine Gr.trans ?_ (by with_reducible assumption)))⟩
end Go.Proofs.Ytehdkoillpebgaa
