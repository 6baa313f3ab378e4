/-
  Walk of the law TimecodeInverse: it returns true.
  Conditions: none beyond the kinds of the arguments.
-/
import Derived.Test.YtehdkoillpebgaaWalk19L
import Derived.Test.YtehdkoillpebgaaMath19D
namespace Go.Proofs.Ytehdkoillpebgaa
open Go.RowKit
set_option linter.unusedSimpArgs false
set_option linter.unusedVariables false

/-- the label of a frame, and that label's number -/
theorem label_and_back (n b : Int) (d : Bool) (hn : I64 n) (ho : okB b d = true) : ∃ x0 x1 x2 x3 : Int,
    (∀ w, Calls Try.prog 23 #[.int .i64 n, .int .i64 b, .bool d] w fun e w' => e = .returned (.tuple #[.agg #[.int .i64 x0, .int .i64 x1, .int .i64 x2, .int .i64 x3, .int .i64 b, .bool d], .int .i64 0]) ∧ Gr w w') ∧
    (∀ w, Calls Try.prog 25 #[.agg #[.int .i64 x0, .int .i64 x1, .int .i64 x2, .int .i64 x3, .int .i64 b, .bool d]] w fun e w' => e = .returned (.tuple #[.int .i64 (n % dayN b d), .int .i64 0]) ∧ Gr w w') := by
  refine ⟨_, _, _, _, fun w => label_any n b d w hn ho, fun w => ?_⟩
  have hd := dayN_pos ho
  obtain ⟨h1, h2, h3⟩ := label_num (r := n % dayN b d) ho (Int.emod_nonneg _ (by omega)) (Int.emod_lt_of_pos _ hd.1)
  have := number_any (lm n b d / 60) (lm n b d % 60) (lf n b d / b) (lf n b d % b) b d w
  unfold lm lf at this ⊢
  unfold nmV nmE at this
  rw [ho, h1, h2, h3] at this
  exact this

/-- where a label has a number, the number's label is the label -/
theorem number_and_back (h m s f b : Int) (d : Bool) : ∃ V E : Int, (∀ w, Calls Try.prog 25 #[.agg #[.int .i64 h, .int .i64 m, .int .i64 s, .int .i64 f, .int .i64 b, .bool d]] w fun e w' => e = .returned (.tuple #[.int .i64 V, .int .i64 E]) ∧ Gr w w') ∧
    ((E = 0 ∧ okB b d = true ∧ 0 ≤ V ∧ V < dayN b d ∧ (∀ w, Calls Try.prog 23 #[.int .i64 V, .int .i64 b, .bool d] w fun e w' => e = .returned (.tuple #[.agg #[.int .i64 h, .int .i64 m, .int .i64 s, .int .i64 f, .int .i64 b, .bool d], .int .i64 0]) ∧ Gr w w')) ∨ E = 1 ∨ E = 2) := by
  refine ⟨_, _, fun w => number_any h m s f b d w, ?_⟩
  rcases nmE_cases h m s f b d with ⟨e0, ho, hi, hm, e1⟩ | ⟨e0, e1⟩
  · obtain ⟨p1, p2, p3, p4⟩ := inN_out hi
    have hb := okB_bounds ho
    have nb := num_bounds ho hi hm
    have hd := dayN_pos ho
    rw [e1]
    refine .inl ⟨e0, ho, nb.1, nb.2, fun w => ?_⟩
    have := label_any (numN h m s f b d) b d w (by unfold I64; omega) ho
    have ll := num_label ho hi hm
    have lp := label_parts (h := h) (m := m) (s := s) (f := f) hb.1 p2 p4
    rw [ll.1, ll.2, lp.1, lp.2.1, lp.2.2.1, lp.2.2.2] at this
    exact this
  · exact .inr e0

set_option maxHeartbeats 1000000 in
theorem lawInverse_walk (n h m s f b : Int) (d : Bool) (B : Int) (D : Bool) (w : World) (hn : I64 n) :
    Calls Try.prog 7 #[.int .i64 n, .agg #[.int .i64 h, .int .i64 m, .int .i64 s, .int .i64 f, .int .i64 b, .bool d], .int .i64 B, .bool D] w fun e w' => e = .returned (.bool true) ∧ Gr w w' := by
  obtain ⟨V, E, HN, HE⟩ := number_and_back h m s f b d
  have HN := Lib.hid HN
  by_cases hO : okB B D = true
  · obtain ⟨x0, x1, x2, x3, HL2, HN2⟩ := label_and_back n B D hn hO
    have HL2 := Lib.hid HL2
    have HN2 := Lib.hid HN2
    have HD := Lib.hid (fun w => day_yes B D w hO)
    obtain ⟨d1, d2⟩ := dayN_pos hO
    have r0 : 0 ≤ n % dayN B D := Int.emod_nonneg _ (by omega)
    have r1 : n % dayN B D < dayN B D := Int.emod_lt_of_pos _ d1
    have q := rest_law (n := n) d1
    have qb := tmod_bounds (n := n) d1
    generalize dayN B D = Y at *
    generalize n % Y = r at *
    have q2 : ((n.tmod Y - r).tmod Y == 0) = true := by simpa using q
    have g1 : decide (0 < Y) = true := decide_eq_true d1
    have g2 : decide (0 ≤ r) = true := decide_eq_true r0
    have g3 : decide (r < Y) = true := decide_eq_true r1
    clear q hO
    rcases HE with ⟨rfl, ho, v0, v1, HL⟩ | rfl | rfl
    · have HL := Lib.hid HL
      clear ho
      go_enter Try.func7, Try.ntmps7
      go_wp2_with (first
        | (go_at_call 25; with_reducible refine (HN.out _).mono ?_; rintro e w1 ⟨rfl, hg1⟩; obtain ⟨hc1, hf1⟩ := hg1.cells; have hz1 := hg1.size; (try simp at hz1); (try have hl1 : w.heap.size < w1.heap.size := by omega))
        | (go_at_call 23; with_reducible refine (HL.out _).mono ?_; rintro e w2 ⟨rfl, hg2⟩; obtain ⟨hc2, hf2⟩ := hg2.cells; have hz2 := hg2.size; (try simp at hz2); (try have hl2 : w.heap.size < w2.heap.size := by omega))
        | (go_at_call 23; with_reducible refine (HL2.out _).mono ?_; rintro e w3 ⟨rfl, hg3⟩; obtain ⟨hc3, hf3⟩ := hg3.cells; have hz3 := hg3.size; (try simp at hz3); (try have hl3 : w.heap.size < w3.heap.size := by omega))
        | (go_at_call 21; refine (HD.out _).mono ?_; rintro e w' ⟨rfl, rfl⟩)
        | (go_at_call 25; with_reducible refine (HN2.out _).mono ?_; rintro e w4 ⟨rfl, hg4⟩)
        | (go_at_call 20; refine (awake_any _).mono ?_; rintro e w5 ⟨rfl, hg5⟩))
      go_ret
      exact ⟨ret_bool rfl, (by repeat (first | refine Gr.setCell ?_ (by first | omega | (simp; done) | (simp; omega)) _ | refine Gr.alloc ?_ _ | refine Gr.drew ?_ | refine Gr.drewN ?_ _ | with_reducible assumption | with_reducible exact Gr.refl _ | refine Gr.trans ?_ (by with_reducible assumption)))⟩
    · go_enter Try.func7, Try.ntmps7
      go_wp2_with (first
        | (go_at_call 25; with_reducible refine (HN.out _).mono ?_; rintro e w1 ⟨rfl, hg1⟩; obtain ⟨hc1, hf1⟩ := hg1.cells; have hz1 := hg1.size; (try simp at hz1); (try have hl1 : w.heap.size < w1.heap.size := by omega))
        | (go_at_call 23; with_reducible refine (HL.out _).mono ?_; rintro e w2 ⟨rfl, hg2⟩; obtain ⟨hc2, hf2⟩ := hg2.cells; have hz2 := hg2.size; (try simp at hz2); (try have hl2 : w.heap.size < w2.heap.size := by omega))
        | (go_at_call 23; with_reducible refine (HL2.out _).mono ?_; rintro e w3 ⟨rfl, hg3⟩; obtain ⟨hc3, hf3⟩ := hg3.cells; have hz3 := hg3.size; (try simp at hz3); (try have hl3 : w.heap.size < w3.heap.size := by omega))
        | (go_at_call 21; refine (HD.out _).mono ?_; rintro e w' ⟨rfl, rfl⟩)
        | (go_at_call 25; with_reducible refine (HN2.out _).mono ?_; rintro e w4 ⟨rfl, hg4⟩)
        | (go_at_call 20; refine (awake_any _).mono ?_; rintro e w5 ⟨rfl, hg5⟩))
      go_ret
      exact ⟨ret_bool rfl, (by repeat (first | refine Gr.setCell ?_ (by first | omega | (simp; done) | (simp; omega)) _ | refine Gr.alloc ?_ _ | refine Gr.drew ?_ | refine Gr.drewN ?_ _ | with_reducible assumption | with_reducible exact Gr.refl _ | refine Gr.trans ?_ (by with_reducible assumption)))⟩
    · go_enter Try.func7, Try.ntmps7
      go_wp2_with (first
        | (go_at_call 25; with_reducible refine (HN.out _).mono ?_; rintro e w1 ⟨rfl, hg1⟩; obtain ⟨hc1, hf1⟩ := hg1.cells; have hz1 := hg1.size; (try simp at hz1); (try have hl1 : w.heap.size < w1.heap.size := by omega))
        | (go_at_call 23; with_reducible refine (HL.out _).mono ?_; rintro e w2 ⟨rfl, hg2⟩; obtain ⟨hc2, hf2⟩ := hg2.cells; have hz2 := hg2.size; (try simp at hz2); (try have hl2 : w.heap.size < w2.heap.size := by omega))
        | (go_at_call 23; with_reducible refine (HL2.out _).mono ?_; rintro e w3 ⟨rfl, hg3⟩; obtain ⟨hc3, hf3⟩ := hg3.cells; have hz3 := hg3.size; (try simp at hz3); (try have hl3 : w.heap.size < w3.heap.size := by omega))
        | (go_at_call 21; refine (HD.out _).mono ?_; rintro e w' ⟨rfl, rfl⟩)
        | (go_at_call 25; with_reducible refine (HN2.out _).mono ?_; rintro e w4 ⟨rfl, hg4⟩)
        | (go_at_call 20; refine (awake_any _).mono ?_; rintro e w5 ⟨rfl, hg5⟩))
      go_ret
      exact ⟨ret_bool rfl, (by repeat (first | refine Gr.setCell ?_ (by first | omega | (simp; done) | (simp; omega)) _ | refine Gr.alloc ?_ _ | refine Gr.drew ?_ | refine Gr.drewN ?_ _ | with_reducible assumption | with_reducible exact Gr.refl _ | refine Gr.trans ?_ (by with_reducible assumption)))⟩
  · have hO : okB B D = false := by simpa using hO
    have HL2 := Lib.hid (fun w => label_no n B D w hO)
    have HD := Lib.hid (fun w => day_no B D w hO)
    rcases HE with ⟨rfl, ho, v0, v1, HL⟩ | rfl | rfl
    · have HL := Lib.hid HL
      clear ho
      go_enter Try.func7, Try.ntmps7
      go_wp2_with (first
        | (go_at_call 25; with_reducible refine (HN.out _).mono ?_; rintro e w1 ⟨rfl, hg1⟩; obtain ⟨hc1, hf1⟩ := hg1.cells; have hz1 := hg1.size; (try simp at hz1); (try have hl1 : w.heap.size < w1.heap.size := by omega))
        | (go_at_call 23; with_reducible refine (HL.out _).mono ?_; rintro e w2 ⟨rfl, hg2⟩; obtain ⟨hc2, hf2⟩ := hg2.cells; have hz2 := hg2.size; (try simp at hz2); (try have hl2 : w.heap.size < w2.heap.size := by omega))
        | (go_at_call 23; with_reducible refine (HL2.out _).mono ?_; rintro e w3 ⟨rfl, hg3⟩; obtain ⟨hc3, hf3⟩ := hg3.cells; have hz3 := hg3.size; (try simp at hz3); (try have hl3 : w.heap.size < w3.heap.size := by omega))
        | (go_at_call 21; refine (HD.out _).mono ?_; rintro e w' ⟨rfl, rfl⟩)
        | (go_at_call 25; with_reducible refine (HN2.out _).mono ?_; rintro e w4 ⟨rfl, hg4⟩)
        | (go_at_call 20; refine (awake_any _).mono ?_; rintro e w5 ⟨rfl, hg5⟩))
      go_ret
      exact ⟨ret_bool rfl, (by repeat (first | refine Gr.setCell ?_ (by first | omega | (simp; done) | (simp; omega)) _ | refine Gr.alloc ?_ _ | refine Gr.drew ?_ | refine Gr.drewN ?_ _ | with_reducible assumption | with_reducible exact Gr.refl _ | refine Gr.trans ?_ (by with_reducible assumption)))⟩
    · go_enter Try.func7, Try.ntmps7
      go_wp2_with (first
        | (go_at_call 25; with_reducible refine (HN.out _).mono ?_; rintro e w1 ⟨rfl, hg1⟩; obtain ⟨hc1, hf1⟩ := hg1.cells; have hz1 := hg1.size; (try simp at hz1); (try have hl1 : w.heap.size < w1.heap.size := by omega))
        | (go_at_call 23; with_reducible refine (HL.out _).mono ?_; rintro e w2 ⟨rfl, hg2⟩; obtain ⟨hc2, hf2⟩ := hg2.cells; have hz2 := hg2.size; (try simp at hz2); (try have hl2 : w.heap.size < w2.heap.size := by omega))
        | (go_at_call 23; with_reducible refine (HL2.out _).mono ?_; rintro e w3 ⟨rfl, hg3⟩; obtain ⟨hc3, hf3⟩ := hg3.cells; have hz3 := hg3.size; (try simp at hz3); (try have hl3 : w.heap.size < w3.heap.size := by omega))
        | (go_at_call 21; refine (HD.out _).mono ?_; rintro e w' ⟨rfl, rfl⟩)
        | (go_at_call 25; with_reducible refine (HN2.out _).mono ?_; rintro e w4 ⟨rfl, hg4⟩)
        | (go_at_call 20; refine (awake_any _).mono ?_; rintro e w5 ⟨rfl, hg5⟩))
      go_ret
      exact ⟨ret_bool rfl, (by repeat (first | refine Gr.setCell ?_ (by first | omega | (simp; done) | (simp; omega)) _ | refine Gr.alloc ?_ _ | refine Gr.drew ?_ | refine Gr.drewN ?_ _ | with_reducible assumption | with_reducible exact Gr.refl _ | refine Gr.trans ?_ (by with_reducible assumption)))⟩
    · go_enter Try.func7, Try.ntmps7
      go_wp2_with (first
        | (go_at_call 25; with_reducible refine (HN.out _).mono ?_; rintro e w1 ⟨rfl, hg1⟩; obtain ⟨hc1, hf1⟩ := hg1.cells; have hz1 := hg1.size; (try simp at hz1); (try have hl1 : w.heap.size < w1.heap.size := by omega))
        | (go_at_call 23; with_reducible refine (HL.out _).mono ?_; rintro e w2 ⟨rfl, hg2⟩; obtain ⟨hc2, hf2⟩ := hg2.cells; have hz2 := hg2.size; (try simp at hz2); (try have hl2 : w.heap.size < w2.heap.size := by omega))
        | (go_at_call 23; with_reducible refine (HL2.out _).mono ?_; rintro e w3 ⟨rfl, hg3⟩; obtain ⟨hc3, hf3⟩ := hg3.cells; have hz3 := hg3.size; (try simp at hz3); (try have hl3 : w.heap.size < w3.heap.size := by omega))
        | (go_at_call 21; refine (HD.out _).mono ?_; rintro e w' ⟨rfl, rfl⟩)
        | (go_at_call 25; with_reducible refine (HN2.out _).mono ?_; rintro e w4 ⟨rfl, hg4⟩)
        | (go_at_call 20; refine (awake_any _).mono ?_; rintro e w5 ⟨rfl, hg5⟩))
      go_ret
      exact ⟨ret_bool rfl, (by repeat (first | refine Gr.setCell ?_ (by first | omega | (simp; done) | (simp; omega)) _ | refine Gr.alloc ?_ _ | refine Gr.drew ?_ | refine Gr.drewN ?_ _ | with_reducible assumption | with_reducible exact Gr.refl _ | refine Gr.trans ?_ (by with_reducible assumption)))⟩
end Go.Proofs.Ytehdkoillpebgaa
