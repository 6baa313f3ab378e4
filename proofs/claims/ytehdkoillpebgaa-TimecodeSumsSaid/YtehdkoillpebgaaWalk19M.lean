/-
  Contracts of Add of package timecode and of its reference.
  Conditions: the arguments are integers of their kinds.
-/
import Derived.Test.YtehdkoillpebgaaWalk19L
import Derived.Test.YtehdkoillpebgaaMath19E
namespace Go.Proofs.Ytehdkoillpebgaa
open Go.RowKit
set_option linter.unusedSimpArgs false
set_option linter.unusedVariables false

theorem add_no (h m s f b n V E : Int) (d : Bool) (w : World) (hE : E = 1 ∨ E = 2)
    (H : ∀ w, Calls Try.prog 25 #[.agg #[.int .i64 h, .int .i64 m, .int .i64 s, .int .i64 f, .int .i64 b, .bool d]] w fun e w' => e = .returned (.tuple #[.int .i64 V, .int .i64 E]) ∧ Gr w w') :
    Calls Try.prog 28 #[.agg #[.int .i64 h, .int .i64 m, .int .i64 s, .int .i64 f, .int .i64 b, .bool d], .int .i64 n] w fun e w' => e = .returned (.tuple #[.agg #[.int .i64 0, .int .i64 0, .int .i64 0, .int .i64 0, .int .i64 0, .bool false], .int .i64 E]) ∧ Gr w w' := by
  have HN := Lib.hid H
  clear H
  rcases hE with rfl | rfl
  all_goals
    go_enter Try.func28, Try.ntmps28
    go_wp2_with (go_at_call 25; refine (HN.out _).mono ?_; rintro e w1 ⟨rfl, hg1⟩; obtain ⟨hc1, hf1⟩ := hg1.cells; have hz1 := hg1.size; (try simp at hz1); (try have hl1_0_0 : w.heap.size < w1.heap.size := by omega); (try have hm1_0_0 : w.heap.size ≤ w1.heap.size := by omega); (try have hl1_0_1 : w.heap.size + 1 < w1.heap.size := by omega); (try have hl1_0_2 : w.heap.size + 2 < w1.heap.size := by omega))
    simp [bodyPost, results, Try.results28, go_sem, hc1, hf1]
    exact (by repeat (first | refine Gr.setCell ?_ (by first | omega | (simp; done) | (simp; omega)) _ | refine Gr.alloc ?_ _ | refine Gr.drew ?_ | refine Gr.drewN ?_ _ | with_reducible assumption | with_reducible exact Gr.refl _ | refine Gr.trans ?_ (by with_reducible assumption)))
theorem radd_no (h m s f b n V E : Int) (d : Bool) (w : World) (hE : E = 1 ∨ E = 2)
    (H : ∀ w, Calls Try.prog 26 #[.agg #[.int .i64 h, .int .i64 m, .int .i64 s, .int .i64 f, .int .i64 b, .bool d]] w fun e w' => e = .returned (.tuple #[.int .i64 V, .int .i64 E]) ∧ Gr w w') :
    Calls Try.prog 29 #[.agg #[.int .i64 h, .int .i64 m, .int .i64 s, .int .i64 f, .int .i64 b, .bool d], .int .i64 n] w fun e w' => e = .returned (.tuple #[.agg #[.int .i64 0, .int .i64 0, .int .i64 0, .int .i64 0, .int .i64 0, .bool false], .int .i64 E]) ∧ Gr w w' := by
  have HN := Lib.hid H
  clear H
  rcases hE with rfl | rfl
  all_goals
    go_enter Try.func29, Try.ntmps29
    go_wp2_with (go_at_call 26; refine (HN.out _).mono ?_; rintro e w1 ⟨rfl, hg1⟩; obtain ⟨hc1, hf1⟩ := hg1.cells; have hz1 := hg1.size; (try simp at hz1); (try have hl1_0_0 : w.heap.size < w1.heap.size := by omega); (try have hm1_0_0 : w.heap.size ≤ w1.heap.size := by omega); (try have hl1_0_1 : w.heap.size + 1 < w1.heap.size := by omega); (try have hl1_0_2 : w.heap.size + 2 < w1.heap.size := by omega))
    simp [bodyPost, results, Try.results29, go_sem, hc1, hf1]
    exact (by repeat (first | refine Gr.setCell ?_ (by first | omega | (simp; done) | (simp; omega)) _ | refine Gr.alloc ?_ _ | refine Gr.drew ?_ | refine Gr.drewN ?_ _ | with_reducible assumption | with_reducible exact Gr.refl _ | refine Gr.trans ?_ (by with_reducible assumption)))

set_option maxHeartbeats 1000000 in
theorem add_yes (h m s f b n V D x0 x1 x2 x3 : Int) (d : Bool) (w : World) (hn : I64 n) (hV0 : 0 ≤ V) (hV1 : V < D) (hD : 0 < D) (hD1 : D ≤ 5184000)
    (H : ∀ w, Calls Try.prog 25 #[.agg #[.int .i64 h, .int .i64 m, .int .i64 s, .int .i64 f, .int .i64 b, .bool d]] w fun e w' => e = .returned (.tuple #[.int .i64 V, .int .i64 0]) ∧ Gr w w')
    (HD : ∀ w, Calls Try.prog 21 #[.int .i64 b, .bool d] w fun e w' => e = .returned (.tuple #[.int .i64 D, .int .i64 0]) ∧ w = w')
    (HL : ∀ w, Calls Try.prog 23 #[.int .i64 (V + n % D), .int .i64 b, .bool d] w fun e w' => e = .returned (.tuple #[.agg #[.int .i64 x0, .int .i64 x1, .int .i64 x2, .int .i64 x3, .int .i64 b, .bool d], .int .i64 0]) ∧ Gr w w') :
    Calls Try.prog 28 #[.agg #[.int .i64 h, .int .i64 m, .int .i64 s, .int .i64 f, .int .i64 b, .bool d], .int .i64 n] w fun e w' => e = .returned (.tuple #[.agg #[.int .i64 x0, .int .i64 x1, .int .i64 x2, .int .i64 x3, .int .i64 b, .bool d], .int .i64 0]) ∧ Gr w w' := by
  have HM := Lib.hid (fun w => modulo_any n D w hn hD (by omega))
  have r0 : 0 ≤ n % D := Int.emod_nonneg _ (by omega)
  have r1 : n % D < D := Int.emod_lt_of_pos _ hD
  generalize n % D = R at *
  have HN := Lib.hid H
  have HD := Lib.hid HD
  have HL := Lib.hid HL
  clear H hn
  go_enter Try.func28, Try.ntmps28
  go_wp2_with (first
    | (go_at_call 25; refine (HN.out _).mono ?_; rintro e w1 ⟨rfl, hg1⟩; obtain ⟨hc1, hf1⟩ := hg1.cells; have hz1 := hg1.size; (try simp at hz1); (try have hl1_0_0 : w.heap.size < w1.heap.size := by omega); (try have hm1_0_0 : w.heap.size ≤ w1.heap.size := by omega); (try have hl1_0_1 : w.heap.size + 1 < w1.heap.size := by omega); (try have hl1_0_2 : w.heap.size + 2 < w1.heap.size := by omega))
    | (go_at_call 21; refine (HD.out _).mono ?_; rintro e w' ⟨rfl, rfl⟩))
  have e1 : IntKind.i64.wrap (V + R) = V + R := IntWalk.i64_in _ (by omega)
  refine wp_region_gr_tail 12 (by kernel_rfl) (by kernel_rfl) (fun hq1 hq2 => ?_)
  simp only [List.take_succ_cons, List.take_zero, List.drop_succ_cons, List.drop_zero]
  repeat (first | go_big_quiet_skip | (go_big_quiet_want; go_big_quiet_op; first | go_big_quiet_on | (apply Exists.intro; refine ⟨fun _ => ?_, ?_⟩; (· (first | (go_at_call 40; exact gr_call_same (HM.out _)) | (go_at_call 23; (try rw [e1]); exact gr_call (HL.out _)))); go_big_quiet_on)))
  refine wpQuiet_nil ?_
  clear hq1 hq2
  rintro w2 ⟨⟨_, hg2⟩, rfl⟩
  obtain ⟨hc2, hf2⟩ := hg2.cells
  have hz2 := hg2.size
  (try simp at hz2); (try have hl2_0_0 : w.heap.size < w2.heap.size := by omega); (try have hm2_0_0 : w.heap.size ≤ w2.heap.size := by omega); (try have hl2_0_1 : w.heap.size + 1 < w2.heap.size := by omega); (try have hl2_0_2 : w.heap.size + 2 < w2.heap.size := by omega); (try have hl2_1_0 : w1.heap.size < w2.heap.size := by omega); (try have hm2_1_0 : w1.heap.size ≤ w2.heap.size := by omega); (try have hl2_1_1 : w1.heap.size + 1 < w2.heap.size := by omega); (try have hl2_1_2 : w1.heap.size + 2 < w2.heap.size := by omega)
  go_wp2
  simp [bodyPost, results, Try.results28, go_sem, hc1, hf1, hc2, hf2, hl1_0_1]
  exact (by repeat (first | refine Gr.setCell ?_ (by first | omega | (simp; done) | (simp; omega)) _ | refine Gr.alloc ?_ _ | refine Gr.drew ?_ | refine Gr.drewN ?_ _ | with_reducible assumption | with_reducible exact Gr.refl _ | refine Gr.trans ?_ (by with_reducible assumption)))

set_option maxHeartbeats 1000000 in
theorem radd_yes (h m s f b n V D x0 x1 x2 x3 : Int) (d : Bool) (w : World) (hV0 : 0 ≤ V) (hV1 : V < D) (hD : 0 < D) (hD1 : D ≤ 5184000)
    (H : ∀ w, Calls Try.prog 26 #[.agg #[.int .i64 h, .int .i64 m, .int .i64 s, .int .i64 f, .int .i64 b, .bool d]] w fun e w' => e = .returned (.tuple #[.int .i64 V, .int .i64 0]) ∧ Gr w w')
    (HD : ∀ w, Calls Try.prog 22 #[.int .i64 b, .bool d] w fun e w' => e = .returned (.tuple #[.int .i64 D, .int .i64 0]) ∧ w = w')
    (HL : ∀ w, Calls Try.prog 24 #[.int .i64 (V + n.tmod D), .int .i64 b, .bool d] w fun e w' => e = .returned (.tuple #[.agg #[.int .i64 x0, .int .i64 x1, .int .i64 x2, .int .i64 x3, .int .i64 b, .bool d], .int .i64 0]) ∧ Gr w w') :
    Calls Try.prog 29 #[.agg #[.int .i64 h, .int .i64 m, .int .i64 s, .int .i64 f, .int .i64 b, .bool d], .int .i64 n] w fun e w' => e = .returned (.tuple #[.agg #[.int .i64 x0, .int .i64 x1, .int .i64 x2, .int .i64 x3, .int .i64 b, .bool d], .int .i64 0]) ∧ Gr w w' := by
  obtain ⟨r0, r1⟩ := tmod_bounds (n := n) hD
  have HN := Lib.hid H
  have HD := Lib.hid HD
  have HL := Lib.hid HL
  have hD0 : (D == 0) = false := by simp; omega
  clear H
  go_enter Try.func29, Try.ntmps29
  go_wp2_with (first
    | (go_at_call 26; refine (HN.out _).mono ?_; rintro e w1 ⟨rfl, hg1⟩; obtain ⟨hc1, hf1⟩ := hg1.cells; have hz1 := hg1.size; (try simp at hz1); (try have hl1_0_0 : w.heap.size < w1.heap.size := by omega); (try have hm1_0_0 : w.heap.size ≤ w1.heap.size := by omega); (try have hl1_0_1 : w.heap.size + 1 < w1.heap.size := by omega); (try have hl1_0_2 : w.heap.size + 2 < w1.heap.size := by omega))
    | (go_at_call 22; refine (HD.out _).mono ?_; rintro e w' ⟨rfl, rfl⟩))
  have e1 : IntKind.i64.wrap (V + n.tmod D) = V + n.tmod D := IntWalk.i64_in _ (by omega)
  refine wp_region_gr_tail 12 (by kernel_rfl) (by kernel_rfl) (fun hq1 hq2 => ?_)
  simp only [List.take_succ_cons, List.take_zero, List.drop_succ_cons, List.drop_zero]
  repeat (first | go_big_quiet_skip | (go_big_quiet_want; go_big_quiet_op; first | go_big_quiet_on | (apply Exists.intro; refine ⟨fun _ => ?_, ?_⟩; (· ((go_at_call 24; (try rw [e1]); exact gr_call (HL.out _)))); go_big_quiet_on)))
  refine wpQuiet_nil ?_
  clear hq1 hq2
  rintro w2 ⟨⟨_, hg2⟩, rfl⟩
  obtain ⟨hc2, hf2⟩ := hg2.cells
  have hz2 := hg2.size
  (try simp at hz2); (try have hl2_0_0 : w.heap.size < w2.heap.size := by omega); (try have hm2_0_0 : w.heap.size ≤ w2.heap.size := by omega); (try have hl2_0_1 : w.heap.size + 1 < w2.heap.size := by omega); (try have hl2_0_2 : w.heap.size + 2 < w2.heap.size := by omega); (try have hl2_1_0 : w1.heap.size < w2.heap.size := by omega); (try have hm2_1_0 : w1.heap.size ≤ w2.heap.size := by omega); (try have hl2_1_1 : w1.heap.size + 1 < w2.heap.size := by omega); (try have hl2_1_2 : w1.heap.size + 2 < w2.heap.size := by omega)
  go_wp2
  simp [bodyPost, results, Try.results29, go_sem, hc1, hf1, hc2, hf2, hl1_0_1]
  exact (by repeat (first | refine Gr.setCell ?_ (by first | omega | (simp; done) | (simp; omega)) _ | refine Gr.alloc ?_ _ | refine Gr.drew ?_ | refine Gr.drewN ?_ _ | with_reducible assumption | with_reducible exact Gr.refl _ | refine Gr.trans ?_ (by with_reducible assumption)))

/-- both sides add alike -/
theorem add_any (h m s f b n : Int) (d : Bool) (hn : I64 n) : ∃ x0 x1 x2 x3 x4 : Int, ∃ x5 : Bool, ∃ E : Int,
    (∀ w, Calls Try.prog 28 #[.agg #[.int .i64 h, .int .i64 m, .int .i64 s, .int .i64 f, .int .i64 b, .bool d], .int .i64 n] w fun e w' => e = .returned (.tuple #[.agg #[.int .i64 x0, .int .i64 x1, .int .i64 x2, .int .i64 x3, .int .i64 x4, .bool x5], .int .i64 E]) ∧ Gr w w') ∧
    (∀ w, Calls Try.prog 29 #[.agg #[.int .i64 h, .int .i64 m, .int .i64 s, .int .i64 f, .int .i64 b, .bool d], .int .i64 n] w fun e w' => e = .returned (.tuple #[.agg #[.int .i64 x0, .int .i64 x1, .int .i64 x2, .int .i64 x3, .int .i64 x4, .bool x5], .int .i64 E]) ∧ Gr w w') := by
  have HN := fun w => number_any h m s f b d w
  have HR := fun w => rnumber_any h m s f b d w
  rcases nmE_cases h m s f b d with ⟨e0, ho, hi, hm, e1⟩ | ⟨e0, e1⟩
  · have nb := num_bounds ho hi hm
    have hd := dayN_pos ho
    rw [e0, e1] at HN HR
    have c1 := add_cong (numN h m s f b d) n hd.1
    have c2 := lm_cong (x := numN h m s f b d + n % dayN b d) (y := numN h m s f b d + n) c1.1
    have c3 := lm_cong (x := numN h m s f b d + n.tmod (dayN b d)) (y := numN h m s f b d + n) c1.2
    have m0 : 0 ≤ n % dayN b d := Int.emod_nonneg _ (by omega)
    have m1 : n % dayN b d < dayN b d := Int.emod_lt_of_pos _ hd.1
    have m2 := tmod_bounds (n := n) hd.1
    refine ⟨lm (numN h m s f b d + n) b d / 60, lm (numN h m s f b d + n) b d % 60, lf (numN h m s f b d + n) b d / b, lf (numN h m s f b d + n) b d % b, b, d, 0, fun w => add_yes h m s f b n _ _ _ _ _ _ d w hn nb.1 nb.2 hd.1 hd.2 HN (fun w => day_yes b d w ho) (fun w => ?_), fun w => radd_yes h m s f b n _ _ _ _ _ _ d w nb.1 nb.2 hd.1 hd.2 HR (fun w => rday_yes b d w ho) (fun w => ?_)⟩
    · have := label_any (numN h m s f b d + n % dayN b d) b d w (by unfold I64; omega) ho
      rw [c2.1, c2.2] at this
      exact this
    · have := rlabel_any (numN h m s f b d + n.tmod (dayN b d)) b d w (by unfold I64; omega) ho
      rw [c3.1, c3.2] at this
      exact this
  · exact ⟨0, 0, 0, 0, 0, false, nmE h m s f b d, fun w => add_no h m s f b n _ _ d w e0 HN, fun w => radd_no h m s f b n _ _ d w e0 HR⟩
end Go.Proofs.Ytehdkoillpebgaa
