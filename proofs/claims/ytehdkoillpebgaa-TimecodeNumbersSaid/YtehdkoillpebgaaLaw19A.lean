/-
  Walks of the laws TimecodeBases, Days, Labels and Numbers: each returns true.
  Conditions: none beyond the kinds of the arguments.
-/
import Derived.Test.YtehdkoillpebgaaWalk19L
import Derived.Test.YtehdkoillpebgaaWalk19E
namespace Go.Proofs.Ytehdkoillpebgaa
open Go.RowKit
set_option linter.unusedSimpArgs false
set_option linter.unusedVariables false

set_option maxHeartbeats 1000000 in
theorem lawBases_walk (n d b : Int) (w : World) (hn : I64 n) (hd : I64 d) :
    Calls Try.prog 3 #[.agg #[.int .i64 n, .int .i64 d], .int .i64 b] w fun e w' => e = .returned (.bool true) ∧ Gr w w' := by
  have H1 := Lib.hid (fun w => base_any n d w hn hd)
  have H2 := Lib.hid (fun w => rbase_any n d w hn hd)
  have H3 := Lib.hid (fun w => canDrop_any b w)
  rcases (show b = 30 ∨ b = 60 ∨ (¬ b = 30 ∧ ¬ b = 60) by omega) with rfl | rfl | ⟨h1, h2⟩
  case inr.inr =>
    have hb : cdB b = false := decide_eq_false (by omega)
    have d1 : (b == 30) = false := by simpa using h1
    have d2 : (b == 60) = false := by simpa using h2
    rw [hb] at H3
    clear hb h1 h2
    go_enter Try.func3, Try.ntmps3
    go_wp2_with (first
      | (go_at_call 17; refine (H1.out _).mono ?_; rintro e w1 ⟨rfl, hg1⟩; obtain ⟨hc1, hf1⟩ := hg1.cells; have hz1 := hg1.size; (try simp at hz1); (try have hl1_0_0 : w.heap.size < w1.heap.size := by omega); (try have hm1_0_0 : w.heap.size ≤ w1.heap.size := by omega); (try have hl1_0_1 : w.heap.size + 1 < w1.heap.size := by omega); (try have hl1_0_2 : w.heap.size + 2 < w1.heap.size := by omega))
      | (go_at_call 18; refine (H2.out _).mono ?_; rintro e w2 ⟨rfl, hg2⟩; obtain ⟨hc2, hf2⟩ := hg2.cells; have hz2 := hg2.size; (try simp at hz2); (try have hl2_0_0 : w.heap.size < w2.heap.size := by omega); (try have hm2_0_0 : w.heap.size ≤ w2.heap.size := by omega); (try have hl2_0_1 : w.heap.size + 1 < w2.heap.size := by omega); (try have hl2_0_2 : w.heap.size + 2 < w2.heap.size := by omega); (try have hl2_1_0 : w1.heap.size < w2.heap.size := by omega); (try have hm2_1_0 : w1.heap.size ≤ w2.heap.size := by omega); (try have hl2_1_1 : w1.heap.size + 1 < w2.heap.size := by omega); (try have hl2_1_2 : w1.heap.size + 2 < w2.heap.size := by omega))
      | (go_at_call 19; refine (H3.out _).mono ?_; rintro e w' ⟨rfl, rfl⟩)
      | (go_at_call 20; refine (awake_any _).mono ?_; rintro e w3 ⟨rfl, hg3⟩; obtain ⟨hc3, hf3⟩ := hg3.cells; have hz3 := hg3.size; (try simp at hz3); (try have hl3_0_0 : w.heap.size < w3.heap.size := by omega); (try have hm3_0_0 : w.heap.size ≤ w3.heap.size := by omega); (try have hl3_0_1 : w.heap.size + 1 < w3.heap.size := by omega); (try have hl3_0_2 : w.heap.size + 2 < w3.heap.size := by omega); (try have hl3_1_0 : w1.heap.size < w3.heap.size := by omega); (try have hm3_1_0 : w1.heap.size ≤ w3.heap.size := by omega); (try have hl3_1_1 : w1.heap.size + 1 < w3.heap.size := by omega); (try have hl3_1_2 : w1.heap.size + 2 < w3.heap.size := by omega); (try have hl3_2_0 : w2.heap.size < w3.heap.size := by omega); (try have hm3_2_0 : w2.heap.size ≤ w3.heap.size := by omega); (try have hl3_2_1 : w2.heap.size + 1 < w3.heap.size := by omega); (try have hl3_2_2 : w2.heap.size + 2 < w3.heap.size := by omega)))
    go_ret
    exact ⟨ret_bool rfl, (by repeat (first | refine Gr.setCell ?_ (by first | omega | (simp; done) | (simp; omega)) _ | refine Gr.alloc ?_ _ | refine Gr.drew ?_ | refine Gr.drewN ?_ _ | with_reducible assumption | with_reducible exact Gr.refl _ | refine Gr.trans ?_ (by with_reducible assumption)))⟩
  case inl => 
    rw [show cdB 30 = true by decide] at H3
    go_enter Try.func3, Try.ntmps3
    go_wp2_with (first
      | (go_at_call 17; refine (H1.out _).mono ?_; rintro e w1 ⟨rfl, hg1⟩; obtain ⟨hc1, hf1⟩ := hg1.cells; have hz1 := hg1.size; (try simp at hz1); (try have hl1_0_0 : w.heap.size < w1.heap.size := by omega); (try have hm1_0_0 : w.heap.size ≤ w1.heap.size := by omega); (try have hl1_0_1 : w.heap.size + 1 < w1.heap.size := by omega); (try have hl1_0_2 : w.heap.size + 2 < w1.heap.size := by omega))
      | (go_at_call 18; refine (H2.out _).mono ?_; rintro e w2 ⟨rfl, hg2⟩; obtain ⟨hc2, hf2⟩ := hg2.cells; have hz2 := hg2.size; (try simp at hz2); (try have hl2_0_0 : w.heap.size < w2.heap.size := by omega); (try have hm2_0_0 : w.heap.size ≤ w2.heap.size := by omega); (try have hl2_0_1 : w.heap.size + 1 < w2.heap.size := by omega); (try have hl2_0_2 : w.heap.size + 2 < w2.heap.size := by omega); (try have hl2_1_0 : w1.heap.size < w2.heap.size := by omega); (try have hm2_1_0 : w1.heap.size ≤ w2.heap.size := by omega); (try have hl2_1_1 : w1.heap.size + 1 < w2.heap.size := by omega); (try have hl2_1_2 : w1.heap.size + 2 < w2.heap.size := by omega))
      | (go_at_call 19; refine (H3.out _).mono ?_; rintro e w' ⟨rfl, rfl⟩)
      | (go_at_call 20; refine (awake_any _).mono ?_; rintro e w3 ⟨rfl, hg3⟩; obtain ⟨hc3, hf3⟩ := hg3.cells; have hz3 := hg3.size; (try simp at hz3); (try have hl3_0_0 : w.heap.size < w3.heap.size := by omega); (try have hm3_0_0 : w.heap.size ≤ w3.heap.size := by omega); (try have hl3_0_1 : w.heap.size + 1 < w3.heap.size := by omega); (try have hl3_0_2 : w.heap.size + 2 < w3.heap.size := by omega); (try have hl3_1_0 : w1.heap.size < w3.heap.size := by omega); (try have hm3_1_0 : w1.heap.size ≤ w3.heap.size := by omega); (try have hl3_1_1 : w1.heap.size + 1 < w3.heap.size := by omega); (try have hl3_1_2 : w1.heap.size + 2 < w3.heap.size := by omega); (try have hl3_2_0 : w2.heap.size < w3.heap.size := by omega); (try have hm3_2_0 : w2.heap.size ≤ w3.heap.size := by omega); (try have hl3_2_1 : w2.heap.size + 1 < w3.heap.size := by omega); (try have hl3_2_2 : w2.heap.size + 2 < w3.heap.size := by omega)))
    go_ret
    exact ⟨ret_bool rfl, (by repeat (first | refine Gr.setCell ?_ (by first | omega | (simp; done) | (simp; omega)) _ | refine Gr.alloc ?_ _ | refine Gr.drew ?_ | refine Gr.drewN ?_ _ | with_reducible assumption | with_reducible exact Gr.refl _ | refine Gr.trans ?_ (by with_reducible assumption)))⟩
  case inr.inl => 
    rw [show cdB 60 = true by decide] at H3
    go_enter Try.func3, Try.ntmps3
    go_wp2_with (first
      | (go_at_call 17; refine (H1.out _).mono ?_; rintro e w1 ⟨rfl, hg1⟩; obtain ⟨hc1, hf1⟩ := hg1.cells; have hz1 := hg1.size; (try simp at hz1); (try have hl1_0_0 : w.heap.size < w1.heap.size := by omega); (try have hm1_0_0 : w.heap.size ≤ w1.heap.size := by omega); (try have hl1_0_1 : w.heap.size + 1 < w1.heap.size := by omega); (try have hl1_0_2 : w.heap.size + 2 < w1.heap.size := by omega))
      | (go_at_call 18; refine (H2.out _).mono ?_; rintro e w2 ⟨rfl, hg2⟩; obtain ⟨hc2, hf2⟩ := hg2.cells; have hz2 := hg2.size; (try simp at hz2); (try have hl2_0_0 : w.heap.size < w2.heap.size := by omega); (try have hm2_0_0 : w.heap.size ≤ w2.heap.size := by omega); (try have hl2_0_1 : w.heap.size + 1 < w2.heap.size := by omega); (try have hl2_0_2 : w.heap.size + 2 < w2.heap.size := by omega); (try have hl2_1_0 : w1.heap.size < w2.heap.size := by omega); (try have hm2_1_0 : w1.heap.size ≤ w2.heap.size := by omega); (try have hl2_1_1 : w1.heap.size + 1 < w2.heap.size := by omega); (try have hl2_1_2 : w1.heap.size + 2 < w2.heap.size := by omega))
      | (go_at_call 19; refine (H3.out _).mono ?_; rintro e w' ⟨rfl, rfl⟩)
      | (go_at_call 20; refine (awake_any _).mono ?_; rintro e w3 ⟨rfl, hg3⟩; obtain ⟨hc3, hf3⟩ := hg3.cells; have hz3 := hg3.size; (try simp at hz3); (try have hl3_0_0 : w.heap.size < w3.heap.size := by omega); (try have hm3_0_0 : w.heap.size ≤ w3.heap.size := by omega); (try have hl3_0_1 : w.heap.size + 1 < w3.heap.size := by omega); (try have hl3_0_2 : w.heap.size + 2 < w3.heap.size := by omega); (try have hl3_1_0 : w1.heap.size < w3.heap.size := by omega); (try have hm3_1_0 : w1.heap.size ≤ w3.heap.size := by omega); (try have hl3_1_1 : w1.heap.size + 1 < w3.heap.size := by omega); (try have hl3_1_2 : w1.heap.size + 2 < w3.heap.size := by omega); (try have hl3_2_0 : w2.heap.size < w3.heap.size := by omega); (try have hm3_2_0 : w2.heap.size ≤ w3.heap.size := by omega); (try have hl3_2_1 : w2.heap.size + 1 < w3.heap.size := by omega); (try have hl3_2_2 : w2.heap.size + 2 < w3.heap.size := by omega)))
    go_ret
    exact ⟨ret_bool rfl, (by repeat (first | refine Gr.setCell ?_ (by first | omega | (simp; done) | (simp; omega)) _ | refine Gr.alloc ?_ _ | refine Gr.drew ?_ | refine Gr.drewN ?_ _ | with_reducible assumption | with_reducible exact Gr.refl _ | refine Gr.trans ?_ (by with_reducible assumption)))⟩

theorem lawDays_walk (b : Int) (d : Bool) (w : World) :
    Calls Try.prog 4 #[.int .i64 b, .bool d] w fun e w' => e = .returned (.bool true) ∧ Gr w w' := by
  obtain ⟨V, E, H1, H2⟩ : ∃ V E, (Hid (∀ w, Calls Try.prog 21 #[.int .i64 b, .bool d] w fun e w' => e = .returned (.tuple #[.int .i64 V, .int .i64 E]) ∧ w = w')) ∧ (Hid (∀ w, Calls Try.prog 22 #[.int .i64 b, .bool d] w fun e w' => e = .returned (.tuple #[.int .i64 V, .int .i64 E]) ∧ w = w')) := by
    by_cases ho : okB b d = true
    · exact ⟨_, _, Lib.hid (fun w => day_yes b d w ho), Lib.hid (fun w => rday_yes b d w ho)⟩
    · have ho : okB b d = false := by simpa using ho
      exact ⟨_, _, Lib.hid (fun w => day_no b d w ho), Lib.hid (fun w => rday_no b d w ho)⟩
  go_enter Try.func4, Try.ntmps4
  go_wp2_with (first
    | (go_at_call 21; refine (H1.out _).mono ?_; rintro e w' ⟨rfl, rfl⟩)
    | (go_at_call 22; refine (H2.out _).mono ?_; rintro e w' ⟨rfl, rfl⟩)
    | (go_at_call 20; refine (awake_any _).mono ?_; rintro e w3 ⟨rfl, hg3⟩; obtain ⟨hc3, hf3⟩ := hg3.cells; have hz3 := hg3.size; (try simp at hz3); (try have hl3_0_0 : w.heap.size < w3.heap.size := by omega); (try have hm3_0_0 : w.heap.size ≤ w3.heap.size := by omega); (try have hl3_0_1 : w.heap.size + 1 < w3.heap.size := by omega); (try have hl3_0_2 : w.heap.size + 2 < w3.heap.size := by omega); (try have hl3_1_0 : w1.heap.size < w3.heap.size := by omega); (try have hm3_1_0 : w1.heap.size ≤ w3.heap.size := by omega); (try have hl3_1_1 : w1.heap.size + 1 < w3.heap.size := by omega); (try have hl3_1_2 : w1.heap.size + 2 < w3.heap.size := by omega); (try have hl3_2_0 : w2.heap.size < w3.heap.size := by omega); (try have hm3_2_0 : w2.heap.size ≤ w3.heap.size := by omega); (try have hl3_2_1 : w2.heap.size + 1 < w3.heap.size := by omega); (try have hl3_2_2 : w2.heap.size + 2 < w3.heap.size := by omega)))
  go_ret
  exact ⟨ret_bool rfl, (by repeat (first | refine Gr.setCell ?_ (by first | omega | (simp; done) | (simp; omega)) _ | refine Gr.alloc ?_ _ | refine Gr.drew ?_ | refine Gr.drewN ?_ _ | with_reducible assumption | with_reducible exact Gr.refl _ | refine Gr.trans ?_ (by with_reducible assumption)))⟩

theorem lawLabels_walk (n b : Int) (d : Bool) (w : World) (hn : I64 n) :
    Calls Try.prog 5 #[.int .i64 n, .int .i64 b, .bool d] w fun e w' => e = .returned (.bool true) ∧ Gr w w' := by
  obtain ⟨x0, x1, x2, x3, x4, x5, E, H1, H2⟩ : ∃ x0 x1 x2 x3 x4 x5 E, (Hid (∀ w, Calls Try.prog 23 #[.int .i64 n, .int .i64 b, .bool d] w fun e w' => e = .returned (.tuple #[.agg #[.int .i64 x0, .int .i64 x1, .int .i64 x2, .int .i64 x3, .int .i64 x4, .bool x5], .int .i64 E]) ∧ Gr w w')) ∧
      (Hid (∀ w, Calls Try.prog 24 #[.int .i64 n, .int .i64 b, .bool d] w fun e w' => e = .returned (.tuple #[.agg #[.int .i64 x0, .int .i64 x1, .int .i64 x2, .int .i64 x3, .int .i64 x4, .bool x5], .int .i64 E]) ∧ Gr w w')) := by
    by_cases ho : okB b d = true
    · exact ⟨_, _, _, _, _, _, _, Lib.hid (fun w => label_any n b d w hn ho), Lib.hid (fun w => rlabel_any n b d w hn ho)⟩
    · have ho : okB b d = false := by simpa using ho
      exact ⟨_, _, _, _, _, _, _, Lib.hid (fun w => label_no n b d w ho), Lib.hid (fun w => rlabel_no n b d w ho)⟩
  go_enter Try.func5, Try.ntmps5
  go_wp2_with (first
    | (go_at_call 23; refine (H1.out _).mono ?_; rintro e w1 ⟨rfl, hg1⟩; obtain ⟨hc1, hf1⟩ := hg1.cells; have hz1 := hg1.size; (try simp at hz1); (try have hl1_0_0 : w.heap.size < w1.heap.size := by omega); (try have hm1_0_0 : w.heap.size ≤ w1.heap.size := by omega); (try have hl1_0_1 : w.heap.size + 1 < w1.heap.size := by omega); (try have hl1_0_2 : w.heap.size + 2 < w1.heap.size := by omega))
    | (go_at_call 24; refine (H2.out _).mono ?_; rintro e w2 ⟨rfl, hg2⟩; obtain ⟨hc2, hf2⟩ := hg2.cells; have hz2 := hg2.size; (try simp at hz2); (try have hl2_0_0 : w.heap.size < w2.heap.size := by omega); (try have hm2_0_0 : w.heap.size ≤ w2.heap.size := by omega); (try have hl2_0_1 : w.heap.size + 1 < w2.heap.size := by omega); (try have hl2_0_2 : w.heap.size + 2 < w2.heap.size := by omega); (try have hl2_1_0 : w1.heap.size < w2.heap.size := by omega); (try have hm2_1_0 : w1.heap.size ≤ w2.heap.size := by omega); (try have hl2_1_1 : w1.heap.size + 1 < w2.heap.size := by omega); (try have hl2_1_2 : w1.heap.size + 2 < w2.heap.size := by omega))
    | (go_at_call 20; refine (awake_any _).mono ?_; rintro e w3 ⟨rfl, hg3⟩; obtain ⟨hc3, hf3⟩ := hg3.cells; have hz3 := hg3.size; (try simp at hz3); (try have hl3_0_0 : w.heap.size < w3.heap.size := by omega); (try have hm3_0_0 : w.heap.size ≤ w3.heap.size := by omega); (try have hl3_0_1 : w.heap.size + 1 < w3.heap.size := by omega); (try have hl3_0_2 : w.heap.size + 2 < w3.heap.size := by omega); (try have hl3_1_0 : w1.heap.size < w3.heap.size := by omega); (try have hm3_1_0 : w1.heap.size ≤ w3.heap.size := by omega); (try have hl3_1_1 : w1.heap.size + 1 < w3.heap.size := by omega); (try have hl3_1_2 : w1.heap.size + 2 < w3.heap.size := by omega); (try have hl3_2_0 : w2.heap.size < w3.heap.size := by omega); (try have hm3_2_0 : w2.heap.size ≤ w3.heap.size := by omega); (try have hl3_2_1 : w2.heap.size + 1 < w3.heap.size := by omega); (try have hl3_2_2 : w2.heap.size + 2 < w3.heap.size := by omega)))
  go_ret
  exact ⟨ret_bool rfl, (by repeat (first | refine Gr.setCell ?_ (by first | omega | (simp; done) | (simp; omega)) _ | refine Gr.alloc ?_ _ | refine Gr.drew ?_ | refine Gr.drewN ?_ _ | with_reducible assumption | with_reducible exact Gr.refl _ | refine Gr.trans ?_ (by with_reducible assumption)))⟩

theorem lawNumbers_walk (h m s f b : Int) (d : Bool) (w : World) :
    Calls Try.prog 6 #[.agg #[.int .i64 h, .int .i64 m, .int .i64 s, .int .i64 f, .int .i64 b, .bool d]] w fun e w' => e = .returned (.bool true) ∧ Gr w w' := by
  have H1 := Lib.hid (fun w => number_any h m s f b d w)
  have H2 := Lib.hid (fun w => rnumber_any h m s f b d w)
  go_enter Try.func6, Try.ntmps6
  go_wp2_with (first
    | (go_at_call 25; refine (H1.out _).mono ?_; rintro e w1 ⟨rfl, hg1⟩; obtain ⟨hc1, hf1⟩ := hg1.cells; have hz1 := hg1.size; (try simp at hz1); (try have hl1_0_0 : w.heap.size < w1.heap.size := by omega); (try have hm1_0_0 : w.heap.size ≤ w1.heap.size := by omega); (try have hl1_0_1 : w.heap.size + 1 < w1.heap.size := by omega); (try have hl1_0_2 : w.heap.size + 2 < w1.heap.size := by omega))
    | (go_at_call 26; refine (H2.out _).mono ?_; rintro e w2 ⟨rfl, hg2⟩; obtain ⟨hc2, hf2⟩ := hg2.cells; have hz2 := hg2.size; (try simp at hz2); (try have hl2_0_0 : w.heap.size < w2.heap.size := by omega); (try have hm2_0_0 : w.heap.size ≤ w2.heap.size := by omega); (try have hl2_0_1 : w.heap.size + 1 < w2.heap.size := by omega); (try have hl2_0_2 : w.heap.size + 2 < w2.heap.size := by omega); (try have hl2_1_0 : w1.heap.size < w2.heap.size := by omega); (try have hm2_1_0 : w1.heap.size ≤ w2.heap.size := by omega); (try have hl2_1_1 : w1.heap.size + 1 < w2.heap.size := by omega); (try have hl2_1_2 : w1.heap.size + 2 < w2.heap.size := by omega))
    | (go_at_call 20; refine (awake_any _).mono ?_; rintro e w3 ⟨rfl, hg3⟩; obtain ⟨hc3, hf3⟩ := hg3.cells; have hz3 := hg3.size; (try simp at hz3); (try have hl3_0_0 : w.heap.size < w3.heap.size := by omega); (try have hm3_0_0 : w.heap.size ≤ w3.heap.size := by omega); (try have hl3_0_1 : w.heap.size + 1 < w3.heap.size := by omega); (try have hl3_0_2 : w.heap.size + 2 < w3.heap.size := by omega); (try have hl3_1_0 : w1.heap.size < w3.heap.size := by omega); (try have hm3_1_0 : w1.heap.size ≤ w3.heap.size := by omega); (try have hl3_1_1 : w1.heap.size + 1 < w3.heap.size := by omega); (try have hl3_1_2 : w1.heap.size + 2 < w3.heap.size := by omega); (try have hl3_2_0 : w2.heap.size < w3.heap.size := by omega); (try have hm3_2_0 : w2.heap.size ≤ w3.heap.size := by omega); (try have hl3_2_1 : w2.heap.size + 1 < w3.heap.size := by omega); (try have hl3_2_2 : w2.heap.size + 2 < w3.heap.size := by omega)))
  go_ret
  exact ⟨ret_bool rfl, (by repeat (first | refine Gr.setCell ?_ (by first | omega | (simp; done) | (simp; omega)) _ | refine Gr.alloc ?_ _ | refine Gr.drew ?_ | refine Gr.drewN ?_ _ | with_reducible assumption | with_reducible exact Gr.refl _ | refine Gr.trans ?_ (by with_reducible assumption)))⟩
end Go.Proofs.Ytehdkoillpebgaa
