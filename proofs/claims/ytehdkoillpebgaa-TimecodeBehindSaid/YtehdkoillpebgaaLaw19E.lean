/-
  Walks of the laws TimecodeDrifts, TimecodeClock and TimecodeBehind: each returns true.
  Conditions: none beyond the kinds of the arguments.
-/
import Derived.Test.YtehdkoillpebgaaWalk19P
import Derived.Test.YtehdkoillpebgaaMath19F
namespace Go.Proofs.Ytehdkoillpebgaa
open Go.RowKit
set_option linter.unusedSimpArgs false
set_option linter.unusedVariables false

/-- the rates that have a base -/
theorem bs_cases (N D : Int) : (bsE N D = 1 ∧ bsV N D = 0) ∨ (bsE N D = 0 ∧ isB (bsV N D) = true ∧ ((D = 1 ∧ N = bsV N D) ∨ (D = 1001 ∧ N = bsV N D * 1000))) := by
  unfold bsE bsV
  by_cases h1 : D = 1 ∧ isB N = true
  · rw [if_pos h1, if_pos h1]; exact .inr ⟨rfl, h1.2, .inl ⟨h1.1, rfl⟩⟩
  · rw [if_neg h1, if_neg h1]
    by_cases h2 : D = 1001 ∧ N % 1000 = 0 ∧ isB (N / 1000) = true
    · rw [if_pos h2, if_pos h2]; exact .inr ⟨rfl, h2.2.2, .inr ⟨h2.1, by omega⟩⟩
    · rw [if_neg h2, if_neg h2]; exact .inl ⟨rfl, rfl⟩

/-- the products that Drift computes are small -/
theorem drift_bounds {n P N D b Y : Int} (hb : 24 ≤ b ∧ b ≤ 60) (hN : 24 ≤ N ∧ N ≤ 60000) (hD : 1 ≤ D ∧ D ≤ 1001) (hn : 0 ≤ n ∧ n ≤ 5184000) (hP : 0 ≤ P ∧ P ≤ 5184000) :
    0 ≤ P * N ∧ P * N ≤ 400000000000 ∧ 0 ≤ n * D ∧ n * D ≤ 6000000000 ∧ 0 ≤ n * D * b ∧ n * D * b ≤ 400000000000 ∧ 0 < b * N ∧ b * N ≤ 4000000 := by
  have a1 : 0 ≤ P * N := Int.mul_nonneg hP.1 (by omega)
  have a2 : P * N ≤ 5184000 * 60000 := Int.mul_le_mul hP.2 hN.2 (by omega) (by omega)
  have a3 : 0 ≤ n * D := Int.mul_nonneg hn.1 (by omega)
  have a4 : n * D ≤ 5184000 * 1001 := Int.mul_le_mul hn.2 hD.2 (by omega) (by omega)
  have a5 : 0 ≤ n * D * b := Int.mul_nonneg a3 (by omega)
  have a6 : n * D * b ≤ (5184000 * 1001) * 60 := Int.mul_le_mul a4 hb.2 (by omega) (by omega)
  have a7 : 24 * 24 ≤ b * N := Int.mul_le_mul hb.1 hN.1 (by omega) (by omega)
  have a8 : b * N ≤ 60 * 60000 := Int.mul_le_mul hb.2 hN.2 (by omega) (by omega)
  omega

/-- Drift of a frame of the day, on both sides -/
theorem drift_both (n N D b : Int) (d : Bool) (hn : I64 n) (hN : I64 N) (hD : I64 D) (e1 : bsV N D = b) (e2 : bsE N D = 0) (hc : (D = 1 ∧ N = b) ∨ (D = 1001 ∧ N = b * 1000)) (ho : okB b d = true) (h0 : 0 ≤ n) (h1 : n < dayN b d) :
    ∃ A B g X Z : Int, X = tmL n b d * N - n * D * b ∧ Z = b * N ∧ 0 < Z ∧ Z ≤ 4000000 ∧ -400000000000 ≤ X ∧ X ≤ 400000000000 ∧ 1 ≤ g ∧ A * g = X ∧ B * g = Z ∧ -400000000000 ≤ A ∧ A ≤ 400000000000 ∧ 1 ≤ B ∧ B ≤ 4000000 ∧
      (∀ w, Calls Try.prog 33 #[.int .i64 n, .agg #[.int .i64 N, .int .i64 D], .bool d] w fun e w' => e = .returned (.tuple #[.agg #[.int .i64 A, .int .i64 B], .int .i64 0]) ∧ Gr w w') ∧
      (∀ w, Calls Try.prog 34 #[.int .i64 n, .agg #[.int .i64 N, .int .i64 D], .bool d] w fun e w' => e = .returned (.tuple #[.agg #[.int .i64 A, .int .i64 B], .int .i64 0]) ∧ Gr w w') := by
  have hb := okB_bounds ho
  have hd := dayN_pos ho
  have tb := tmL_bounds (n := n) ho
  have te := tmL_eq (n := n) ho
  obtain ⟨l1, l2, l3, l4⟩ := l_bounds (n := n) ho
  have q1 : 0 ≤ lm n b d / 60 ∧ lm n b d / 60 < 24 := by omega
  have q2 : 0 ≤ lm n b d % 60 ∧ lm n b d % 60 < 60 := by omega
  have q3 : 0 ≤ lf n b d / b ∧ lf n b d / b < 60 := ⟨Int.ediv_nonneg l3 (by omega), Int.ediv_lt_of_lt_mul (by omega) (by omega)⟩
  have q4 : 0 ≤ lf n b d % b ∧ lf n b d % b < b := ⟨Int.emod_nonneg _ (by omega), Int.emod_lt_of_pos _ (by omega)⟩
  have bb : 24 ≤ b ∧ b ≤ 60 := ⟨hb.1, hb.2.1⟩
  have nb : 24 ≤ N ∧ N ≤ 60000 := by omega
  have db : 1 ≤ D ∧ D ≤ 1001 := by omega
  obtain ⟨p1, p2, p3, p4, p5, p6, p7, p8⟩ := drift_bounds (Y := dayN b d) bb nb db ⟨h0, by omega⟩ tb
  obtain ⟨X, hX⟩ : ∃ X, tmL n b d * N - n * D * b = X := ⟨_, rfl⟩
  obtain ⟨Z, hZ⟩ : ∃ Z, b * N = Z := ⟨_, rfl⟩
  have xb : -400000000000 ≤ X ∧ X ≤ 400000000000 := by omega
  have zb : 0 < Z ∧ Z ≤ 4000000 := by omega
  obtain ⟨g1, g2, ⟨g3, g4⟩, g5, g6, g7⟩ := gc_quot_small (n := X) zb.1
  have qb := quot_bounds g1 xb.1 xb.2 (by omega)
  have B1 : 1 ≤ Z / gc X Z := by
    apply Int.le_ediv_of_mul_le (by omega)
    omega
  obtain ⟨o1, o2, o3⟩ := of_small (X := X) zb.1 (by omega) (by omega) (by omega)
  refine ⟨X / gc X Z, Z / gc X Z, gc X Z, X, Z, hX.symm, hZ.symm, zb.1, zb.2, xb.1, xb.2, g1, g6, g7, qb.1, qb.2, B1, by omega, fun w => ?_, fun w => ?_⟩
  · refine drift_ok n N D b (dayN b d) (tmL n b d) X Z _ _ _ _ _ _ _ d w h0 h1 hd.2 hX hZ p1 p2 p3 p4 p5 p6 (by omega) p8 (fun w => ?_) (fun w => day_yes b d w ho) (fun w => label_any n b d w hn ho) (fun w => ?_) (fun w => ?_)
    · have := base_any N D w hN hD
      rw [e1, e2] at this
      exact this
    · have := position_any _ _ _ _ b d w q1 q2 q3 q4 bb
      rw [te] at this
      exact this
    · have := of_any X Z w (by unfold I64; omega) (by unfold I64; omega)
      rw [o1, o2, o3] at this
      exact this
  · refine rdrift_ok n N D b (dayN b d) (tmL n b d) X Z _ _ _ _ _ _ d w h0 h1 hd.2 hX hZ p1 p2 p3 p4 p5 p6 (by omega) p8 (fun w => ?_) (fun w => rday_yes b d w ho) (fun w => rlabel_any n b d w hn ho) (fun w => ?_) (fun w => ?_)
    · have := rbase_any N D w hN hD
      rw [e1, e2] at this
      exact this
    · have := time_any _ _ _ _ b d w q1 q2 q3 q4 bb
      rw [te] at this
      exact this
    · exact lowest_any X Z w (by omega) (by omega) zb.1 (by omega)

theorem drift_any (n N D : Int) (d : Bool) (hn : I64 n) (hN : I64 N) (hD : I64 D) : ∃ A B E : Int,
      (∀ w, Calls Try.prog 33 #[.int .i64 n, .agg #[.int .i64 N, .int .i64 D], .bool d] w fun e w' => e = .returned (.tuple #[.agg #[.int .i64 A, .int .i64 B], .int .i64 E]) ∧ Gr w w') ∧
      (∀ w, Calls Try.prog 34 #[.int .i64 n, .agg #[.int .i64 N, .int .i64 D], .bool d] w fun e w' => e = .returned (.tuple #[.agg #[.int .i64 A, .int .i64 B], .int .i64 E]) ∧ Gr w w') := by
  have H1 := fun w => base_any N D w hN hD
  have H2 := fun w => rbase_any N D w hN hD
  rcases bs_cases N D with ⟨e1, e2⟩ | ⟨e1, hb, hc⟩
  · rw [e1] at H1 H2
    exact ⟨0, 0, 1, fun w => drift_base n N D _ d w H1, fun w => rdrift_base n N D _ d w H2⟩
  · obtain ⟨b, eb⟩ : ∃ b, bsV N D = b := ⟨_, rfl⟩
    rw [eb] at hb hc H1 H2
    rw [e1] at H1 H2
    by_cases ho : okB b d = true
    · have hd := dayN_pos ho
      by_cases hr : 0 ≤ n ∧ n < dayN b d
      · obtain ⟨A, B, g, X, Z, -, -, -, -, -, -, -, -, -, -, -, -, -, h1, h2⟩ := drift_both n N D b d hn hN hD eb e1 hc ho hr.1 hr.2
        exact ⟨A, B, 0, h1, h2⟩
      · exact ⟨0, 0, 2, fun w => drift_range n N D b (dayN b d) d w hn hd.2 (by omega) H1 (fun w => day_yes b d w ho), fun w => rdrift_range n N D b (dayN b d) d w hn hd.2 (by omega) H2 (fun w => rday_yes b d w ho)⟩
    · have ho : okB b d = false := by simpa using ho
      exact ⟨0, 0, 1, fun w => drift_day n N D b 0 d w H1 (fun w => day_no b d w ho), fun w => rdrift_day n N D b 0 d w H2 (fun w => rday_no b d w ho)⟩

theorem lawDrifts_walk (n N D : Int) (d : Bool) (w : World) (hn : I64 n) (hN : I64 N) (hD : I64 D) :
    Calls Try.prog 14 #[.int .i64 n, .agg #[.int .i64 N, .int .i64 D], .bool d] w fun e w' => e = .returned (.bool true) ∧ Gr w w' := by
  obtain ⟨A, B, E, H1, H2⟩ := drift_any n N D d hn hN hD
  have H1 := Lib.hid H1
  have H2 := Lib.hid H2
  go_enter Try.func14, Try.ntmps14
  go_wp2_with (first
    | (go_at_call 33; refine (H1.out _).mono ?_; rintro e w1 ⟨rfl, hg1⟩; obtain ⟨hc1, hf1⟩ := hg1.cells; have hz1 := hg1.size; (try simp at hz1); (try have hl1_0_0 : w.heap.size < w1.heap.size := by omega); (try have hm1_0_0 : w.heap.size ≤ w1.heap.size := by omega); (try have hl1_0_1 : w.heap.size + 1 < w1.heap.size := by omega); (try have hl1_0_2 : w.heap.size + 2 < w1.heap.size := by omega))
    | (go_at_call 34; refine (H2.out _).mono ?_; rintro e w2 ⟨rfl, hg2⟩; obtain ⟨hc2, hf2⟩ := hg2.cells; have hz2 := hg2.size; (try simp at hz2); (try have hl2_0_0 : w.heap.size < w2.heap.size := by omega); (try have hm2_0_0 : w.heap.size ≤ w2.heap.size := by omega); (try have hl2_0_1 : w.heap.size + 1 < w2.heap.size := by omega); (try have hl2_0_2 : w.heap.size + 2 < w2.heap.size := by omega); (try have hl2_1_0 : w1.heap.size < w2.heap.size := by omega); (try have hm2_1_0 : w1.heap.size ≤ w2.heap.size := by omega); (try have hl2_1_1 : w1.heap.size + 1 < w2.heap.size := by omega); (try have hl2_1_2 : w1.heap.size + 2 < w2.heap.size := by omega))
    | (go_at_call 20; refine (awake_any _).mono ?_; rintro e w3 ⟨rfl, hg3⟩; obtain ⟨hc3, hf3⟩ := hg3.cells; have hz3 := hg3.size; (try simp at hz3); (try have hl3_0_0 : w.heap.size < w3.heap.size := by omega); (try have hm3_0_0 : w.heap.size ≤ w3.heap.size := by omega); (try have hl3_0_1 : w.heap.size + 1 < w3.heap.size := by omega); (try have hl3_0_2 : w.heap.size + 2 < w3.heap.size := by omega); (try have hl3_1_0 : w1.heap.size < w3.heap.size := by omega); (try have hm3_1_0 : w1.heap.size ≤ w3.heap.size := by omega); (try have hl3_1_1 : w1.heap.size + 1 < w3.heap.size := by omega); (try have hl3_1_2 : w1.heap.size + 2 < w3.heap.size := by omega); (try have hl3_2_0 : w2.heap.size < w3.heap.size := by omega); (try have hm3_2_0 : w2.heap.size ≤ w3.heap.size := by omega); (try have hl3_2_1 : w2.heap.size + 1 < w3.heap.size := by omega); (try have hl3_2_2 : w2.heap.size + 2 < w3.heap.size := by omega)))
  go_ret
  exact ⟨ret_bool rfl, (by repeat (first | refine Gr.setCell ?_ (by first | omega | (simp; done) | (simp; omega)) _ | refine Gr.alloc ?_ _ | refine Gr.drew ?_ | refine Gr.drewN ?_ _ | with_reducible assumption | with_reducible exact Gr.refl _ | refine Gr.trans ?_ (by with_reducible assumption)))⟩

/-- n modulo the day, as the laws compute it -/
theorem day_rest {n Y : Int} (hY : 0 < Y) : (n.tmod Y + Y) % Y = n % Y ∧ 0 < n.tmod Y + Y ∧ n.tmod Y + Y < 2 * Y ∧ 0 ≤ n % Y ∧ n % Y < Y := by
  have h := tmod_bounds (n := n) hY
  refine ⟨?_, by omega, by omega, Int.emod_nonneg _ (by omega), Int.emod_lt_of_pos _ hY⟩
  rw [Int.add_emod_right, tmod_cong n hY]

set_option maxHeartbeats 1000000 in
theorem lawClock30 (n : Int) (w : World) (hn : I64 n) :
    Calls Try.prog 15 #[.int .i64 n, .bool false] w fun e w' => e = .returned (.bool true) ∧ Gr w w' := by
  obtain ⟨n1, n2⟩ := hn
  obtain ⟨d1, d2, d3, d4, d5⟩ := day_rest (n := n) (show (0 : Int) < 2589408 by decide)
  have hY : dayN 30 true = 2589408 := by decide
  obtain ⟨c1, c2⟩ := clock30 d4 d5
  obtain ⟨A, B, g, X, Z, hX, hZ, z1, z2, x1, x2, g1, hA, hB, a1, a2, b1, b2, H, -⟩ := drift_both (n % 2589408) 30000 1001 30 true (by unfold I64; omega) (by unfold I64; omega) (by unfold I64; omega) (by decide +kernel) (by decide +kernel) (.inr ⟨rfl, rfl⟩) (by decide) d4 (by rw [hY]; exact d5)
  have hp1 : -B < A * 15 := by
    have h1 := (low_cmp (by omega) hB hA (-1) 15).1 (by omega)
    omega
  have hp2 : A * 20 < 3 * B := by
    have h1 := (low_cmp (by omega) hA hB 20 3).1 (by omega)
    omega
  clear hX hZ z1 z2 x1 x2 hA hB c1 c2 hY
  have H := Lib.hid H
  have D1 := Lib.hid d1
  have tb := tmod_bounds (n := n) (show (0 : Int) < 2589408 by decide)
  obtain ⟨tb1, tb2⟩ := tb
  generalize n % 2589408 = R at *
  go_enter Try.func15, Try.ntmps15
  have D1 := D1.out
  go_wp2_with (first
    | (go_at_call 33; refine (H.out _).mono ?_; rintro e w1 ⟨rfl, hg1⟩; obtain ⟨hc1, hf1⟩ := hg1.cells; have hz1 := hg1.size; (try simp at hz1); (try have hl1_0_0 : w.heap.size < w1.heap.size := by omega); (try have hm1_0_0 : w.heap.size ≤ w1.heap.size := by omega); (try have hl1_0_1 : w.heap.size + 1 < w1.heap.size := by omega); (try have hl1_0_2 : w.heap.size + 2 < w1.heap.size := by omega))
    | (go_at_call 20; refine (awake_any _).mono ?_; rintro e w2 ⟨rfl, hg2⟩))
  go_ret
  exact ⟨ret_bool rfl, (by repeat (first | refine Gr.setCell ?_ (by first | omega | (simp; done) | (simp; omega)) _ | refine Gr.alloc ?_ _ | refine Gr.drew ?_ | refine Gr.drewN ?_ _ | with_reducible assumption | with_reducible exact Gr.refl _ | refine Gr.trans ?_ (by with_reducible assumption)))⟩
set_option maxHeartbeats 1000000 in
theorem lawClock60 (n : Int) (w : World) (hn : I64 n) :
    Calls Try.prog 15 #[.int .i64 n, .bool true] w fun e w' => e = .returned (.bool true) ∧ Gr w w' := by
  obtain ⟨n1, n2⟩ := hn
  obtain ⟨d1, d2, d3, d4, d5⟩ := day_rest (n := n) (show (0 : Int) < 5178816 by decide)
  have hY : dayN 60 true = 5178816 := by decide
  obtain ⟨c1, c2⟩ := clock60 d4 d5
  obtain ⟨A, B, g, X, Z, hX, hZ, z1, z2, x1, x2, g1, hA, hB, a1, a2, b1, b2, H, -⟩ := drift_both (n % 5178816) 60000 1001 60 true (by unfold I64; omega) (by unfold I64; omega) (by unfold I64; omega) (by decide +kernel) (by decide +kernel) (.inr ⟨rfl, rfl⟩) (by decide) d4 (by rw [hY]; exact d5)
  have hp1 : -B < A * 15 := by
    have h1 := (low_cmp (by omega) hB hA (-1) 15).1 (by omega)
    omega
  have hp2 : A * 20 < 3 * B := by
    have h1 := (low_cmp (by omega) hA hB 20 3).1 (by omega)
    omega
  clear hX hZ z1 z2 x1 x2 hA hB c1 c2 hY
  have H := Lib.hid H
  have D1 := Lib.hid d1
  have tb := tmod_bounds (n := n) (show (0 : Int) < 5178816 by decide)
  obtain ⟨tb1, tb2⟩ := tb
  generalize n % 5178816 = R at *
  go_enter Try.func15, Try.ntmps15
  have D1 := D1.out
  go_wp2_with (first
    | (go_at_call 33; refine (H.out _).mono ?_; rintro e w1 ⟨rfl, hg1⟩; obtain ⟨hc1, hf1⟩ := hg1.cells; have hz1 := hg1.size; (try simp at hz1); (try have hl1_0_0 : w.heap.size < w1.heap.size := by omega); (try have hm1_0_0 : w.heap.size ≤ w1.heap.size := by omega); (try have hl1_0_1 : w.heap.size + 1 < w1.heap.size := by omega); (try have hl1_0_2 : w.heap.size + 2 < w1.heap.size := by omega))
    | (go_at_call 20; refine (awake_any _).mono ?_; rintro e w2 ⟨rfl, hg2⟩))
  go_ret
  exact ⟨ret_bool rfl, (by repeat (first | refine Gr.setCell ?_ (by first | omega | (simp; done) | (simp; omega)) _ | refine Gr.alloc ?_ _ | refine Gr.drew ?_ | refine Gr.drewN ?_ _ | with_reducible assumption | with_reducible exact Gr.refl _ | refine Gr.trans ?_ (by with_reducible assumption)))⟩
theorem lawClock_walk (n : Int) (s : Bool) (w : World) (hn : I64 n) :
    Calls Try.prog 15 #[.int .i64 n, .bool s] w fun e w' => e = .returned (.bool true) ∧ Gr w w' := by
  cases s
  · exact lawClock30 n w hn
  · exact lawClock60 n w hn
end Go.Proofs.Ytehdkoillpebgaa
