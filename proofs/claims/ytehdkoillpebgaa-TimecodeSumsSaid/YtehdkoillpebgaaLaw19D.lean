/-
  Walks of the laws TimecodeTenMinutes, TimecodeAdds and TimecodeSums: each returns true.
  Conditions: none beyond the kinds of the arguments.
-/
import Derived.Test.YtehdkoillpebgaaWalk19M
namespace Go.Proofs.Ytehdkoillpebgaa
open Go.RowKit
set_option linter.unusedSimpArgs false
set_option linter.unusedVariables false

set_option maxHeartbeats 1000000 in
theorem lawTen_walk (n b : Int) (d : Bool) (w : World) (hn : I64 n) :
    Calls Try.prog 10 #[.int .i64 n, .int .i64 b, .bool d] w fun e w' => e = .returned (.bool true) ∧ Gr w w' := by
  by_cases ho : okB b d = true
  · have HD := Lib.hid (fun w => day_yes b d w ho)
    obtain ⟨d1, d2⟩ := dayN_pos ho
    obtain ⟨t1, t2⟩ := dayN_ten b d
    obtain ⟨l1, l2⟩ := ten_later (n := n) ho
    obtain ⟨l3, l4, l5, l6⟩ := l_bounds (n := n) ho
    have bb := okB_bounds ho
    have l7 : 0 ≤ lf n b d / b := Int.ediv_nonneg l5 (by omega)
    have l8 : 0 ≤ lf n b d % b := Int.emod_nonneg _ (by omega)
    obtain ⟨n1, n2⟩ := hn
    have HL : Hid (∀ w, Calls Try.prog 23 #[.int .i64 n, .int .i64 b, .bool d] w fun e w' => e = .returned (.tuple #[.agg #[.int .i64 (lm n b d / 60), .int .i64 (lm n b d % 60), .int .i64 (lf n b d / b), .int .i64 (lf n b d % b), .int .i64 b, .bool d], .int .i64 0]) ∧ Gr w w') := fun w => label_any n b d w ⟨n1, n2⟩ ho
    have HK : Hid (n ≤ 1099511627776 → 0 ≤ n → ∀ w, Calls Try.prog 23 #[.int .i64 (n + dayN b d / 144), .int .i64 b, .bool d] w fun e w' => e = .returned (.tuple #[.agg #[.int .i64 ((lm n b d / 60 * 60 + lm n b d % 60 + 10) % 1440 / 60), .int .i64 ((lm n b d / 60 * 60 + lm n b d % 60 + 10) % 1440 % 60), .int .i64 (lf n b d / b), .int .i64 (lf n b d % b), .int .i64 b, .bool d], .int .i64 0]) ∧ Gr w w') := fun h h' w => by
      have := label_any (n + dayN b d / 144) b d w (by unfold I64; omega) ho
      rw [l1, l2] at this
      rw [show lm n b d / 60 * 60 + lm n b d % 60 = lm n b d by omega]
      exact this
    have g1 : 0 ≤ lm n b d / 60 ∧ lm n b d / 60 < 24 := by omega
    have g2 : 0 ≤ lm n b d % 60 ∧ lm n b d % 60 < 60 := by omega
    clear l1 l2 l3 l4 t2
    generalize lm n b d / 60 = x0 at *
    generalize lm n b d % 60 = x1 at *
    generalize lf n b d / b = x2 at *
    generalize lf n b d % b = x3 at *
    obtain ⟨g1, g1'⟩ := g1
    obtain ⟨g2, g2'⟩ := g2
    have q1 : (dayN b d % 144 != 0) = false := by simpa using t1
    generalize dayN b d = D at *
    clear ho t1 l5 l6 bb
    rcases (show n < 0 ∨ (0 ≤ n ∧ 1099511627776 < n) ∨ (0 ≤ n ∧ n ≤ 1099511627776) by omega) with c | ⟨c, c'⟩ | ⟨c, c'⟩
    · go_enter Try.func10, Try.ntmps10
      go_wp2_with (first
        | (go_at_call 21; refine (HD.out _).mono ?_; rintro e w' ⟨rfl, rfl⟩)
        | (go_at_call 20; refine (awake_any _).mono ?_; rintro e w3 ⟨rfl, hg3⟩; obtain ⟨hc3, hf3⟩ := hg3.cells; have hz3 := hg3.size; (try simp at hz3); (try have hl3_0_0 : w.heap.size < w3.heap.size := by omega); (try have hm3_0_0 : w.heap.size ≤ w3.heap.size := by omega); (try have hl3_0_1 : w.heap.size + 1 < w3.heap.size := by omega); (try have hl3_0_2 : w.heap.size + 2 < w3.heap.size := by omega); (try have hl3_1_0 : w1.heap.size < w3.heap.size := by omega); (try have hm3_1_0 : w1.heap.size ≤ w3.heap.size := by omega); (try have hl3_1_1 : w1.heap.size + 1 < w3.heap.size := by omega); (try have hl3_1_2 : w1.heap.size + 2 < w3.heap.size := by omega); (try have hl3_2_0 : w2.heap.size < w3.heap.size := by omega); (try have hm3_2_0 : w2.heap.size ≤ w3.heap.size := by omega); (try have hl3_2_1 : w2.heap.size + 1 < w3.heap.size := by omega); (try have hl3_2_2 : w2.heap.size + 2 < w3.heap.size := by omega)))
      go_ret
      exact ⟨ret_bool rfl, (by repeat (first | refine Gr.setCell ?_ (by first | omega | (simp; done) | (simp; omega)) _ | refine Gr.alloc ?_ _ | refine Gr.drew ?_ | refine Gr.drewN ?_ _ | with_reducible assumption | with_reducible exact Gr.refl _ | refine Gr.trans ?_ (by with_reducible assumption)))⟩
    · go_enter Try.func10, Try.ntmps10
      go_wp2_with (first
        | (go_at_call 21; refine (HD.out _).mono ?_; rintro e w' ⟨rfl, rfl⟩)
        | (go_at_call 20; refine (awake_any _).mono ?_; rintro e w3 ⟨rfl, hg3⟩; obtain ⟨hc3, hf3⟩ := hg3.cells; have hz3 := hg3.size; (try simp at hz3); (try have hl3_0_0 : w.heap.size < w3.heap.size := by omega); (try have hm3_0_0 : w.heap.size ≤ w3.heap.size := by omega); (try have hl3_0_1 : w.heap.size + 1 < w3.heap.size := by omega); (try have hl3_0_2 : w.heap.size + 2 < w3.heap.size := by omega); (try have hl3_1_0 : w1.heap.size < w3.heap.size := by omega); (try have hm3_1_0 : w1.heap.size ≤ w3.heap.size := by omega); (try have hl3_1_1 : w1.heap.size + 1 < w3.heap.size := by omega); (try have hl3_1_2 : w1.heap.size + 2 < w3.heap.size := by omega); (try have hl3_2_0 : w2.heap.size < w3.heap.size := by omega); (try have hm3_2_0 : w2.heap.size ≤ w3.heap.size := by omega); (try have hl3_2_1 : w2.heap.size + 1 < w3.heap.size := by omega); (try have hl3_2_2 : w2.heap.size + 2 < w3.heap.size := by omega)))
      go_ret
      exact ⟨ret_bool rfl, (by repeat (first | refine Gr.setCell ?_ (by first | omega | (simp; done) | (simp; omega)) _ | refine Gr.alloc ?_ _ | refine Gr.drew ?_ | refine Gr.drewN ?_ _ | with_reducible assumption | with_reducible exact Gr.refl _ | refine Gr.trans ?_ (by with_reducible assumption)))⟩
    · have HK := Lib.hid (HK.out c' c)
      go_enter Try.func10, Try.ntmps10
      go_wp2_with (first
        | (go_at_call 21; refine (HD.out _).mono ?_; rintro e w' ⟨rfl, rfl⟩)
        | (go_at_call 23; with_reducible refine (HL.out _).mono ?_; rintro e w1 ⟨rfl, hg1⟩; obtain ⟨hc1, hf1⟩ := hg1.cells; have hz1 := hg1.size; (try simp at hz1))
        | (go_at_call 23; with_reducible refine (HK.out _).mono ?_; rintro e w2 ⟨rfl, hg2⟩; obtain ⟨hc2, hf2⟩ := hg2.cells; have hz2 := hg2.size; (try simp at hz2); (try have hl2 : w1.heap.size < w2.heap.size := by omega))
        | (go_at_call 20; refine (awake_any _).mono ?_; rintro e w5 ⟨rfl, hg5⟩))
      go_ret
      exact ⟨ret_bool rfl, (by repeat (first | refine Gr.setCell ?_ (by first | omega | (simp; done) | (simp; omega)) _ | refine Gr.alloc ?_ _ | refine Gr.drew ?_ | refine Gr.drewN ?_ _ | with_reducible assumption | with_reducible exact Gr.refl _ | refine Gr.trans ?_ (by with_reducible assumption)))⟩
  · have ho : okB b d = false := by simpa using ho
    have HD := Lib.hid (fun w => day_no b d w ho)
    go_enter Try.func10, Try.ntmps10
    go_wp2_with (first
      | (go_at_call 21; refine (HD.out _).mono ?_; rintro e w' ⟨rfl, rfl⟩)
      | (go_at_call 20; refine (awake_any _).mono ?_; rintro e w3 ⟨rfl, hg3⟩; obtain ⟨hc3, hf3⟩ := hg3.cells; have hz3 := hg3.size; (try simp at hz3); (try have hl3_0_0 : w.heap.size < w3.heap.size := by omega); (try have hm3_0_0 : w.heap.size ≤ w3.heap.size := by omega); (try have hl3_0_1 : w.heap.size + 1 < w3.heap.size := by omega); (try have hl3_0_2 : w.heap.size + 2 < w3.heap.size := by omega); (try have hl3_1_0 : w1.heap.size < w3.heap.size := by omega); (try have hm3_1_0 : w1.heap.size ≤ w3.heap.size := by omega); (try have hl3_1_1 : w1.heap.size + 1 < w3.heap.size := by omega); (try have hl3_1_2 : w1.heap.size + 2 < w3.heap.size := by omega); (try have hl3_2_0 : w2.heap.size < w3.heap.size := by omega); (try have hm3_2_0 : w2.heap.size ≤ w3.heap.size := by omega); (try have hl3_2_1 : w2.heap.size + 1 < w3.heap.size := by omega); (try have hl3_2_2 : w2.heap.size + 2 < w3.heap.size := by omega)))
    go_ret
    exact ⟨ret_bool rfl, (by repeat (first | refine Gr.setCell ?_ (by first | omega | (simp; done) | (simp; omega)) _ | refine Gr.alloc ?_ _ | refine Gr.drew ?_ | refine Gr.drewN ?_ _ | with_reducible assumption | with_reducible exact Gr.refl _ | refine Gr.trans ?_ (by with_reducible assumption)))⟩

theorem lawAdds_walk (h m s f b n : Int) (d : Bool) (w : World) (hn : I64 n) :
    Calls Try.prog 11 #[.agg #[.int .i64 h, .int .i64 m, .int .i64 s, .int .i64 f, .int .i64 b, .bool d], .int .i64 n] w fun e w' => e = .returned (.bool true) ∧ Gr w w' := by
  obtain ⟨x0, x1, x2, x3, x4, x5, E, H1, H2⟩ := add_any h m s f b n d hn
  have H1 := Lib.hid H1
  have H2 := Lib.hid H2
  go_enter Try.func11, Try.ntmps11
  go_wp2_with (first
    | (go_at_call 28; refine (H1.out _).mono ?_; rintro e w1 ⟨rfl, hg1⟩; obtain ⟨hc1, hf1⟩ := hg1.cells; have hz1 := hg1.size; (try simp at hz1); (try have hl1_0_0 : w.heap.size < w1.heap.size := by omega); (try have hm1_0_0 : w.heap.size ≤ w1.heap.size := by omega); (try have hl1_0_1 : w.heap.size + 1 < w1.heap.size := by omega); (try have hl1_0_2 : w.heap.size + 2 < w1.heap.size := by omega))
    | (go_at_call 29; refine (H2.out _).mono ?_; rintro e w2 ⟨rfl, hg2⟩; obtain ⟨hc2, hf2⟩ := hg2.cells; have hz2 := hg2.size; (try simp at hz2); (try have hl2_0_0 : w.heap.size < w2.heap.size := by omega); (try have hm2_0_0 : w.heap.size ≤ w2.heap.size := by omega); (try have hl2_0_1 : w.heap.size + 1 < w2.heap.size := by omega); (try have hl2_0_2 : w.heap.size + 2 < w2.heap.size := by omega); (try have hl2_1_0 : w1.heap.size < w2.heap.size := by omega); (try have hm2_1_0 : w1.heap.size ≤ w2.heap.size := by omega); (try have hl2_1_1 : w1.heap.size + 1 < w2.heap.size := by omega); (try have hl2_1_2 : w1.heap.size + 2 < w2.heap.size := by omega))
    | (go_at_call 20; refine (awake_any _).mono ?_; rintro e w3 ⟨rfl, hg3⟩; obtain ⟨hc3, hf3⟩ := hg3.cells; have hz3 := hg3.size; (try simp at hz3); (try have hl3_0_0 : w.heap.size < w3.heap.size := by omega); (try have hm3_0_0 : w.heap.size ≤ w3.heap.size := by omega); (try have hl3_0_1 : w.heap.size + 1 < w3.heap.size := by omega); (try have hl3_0_2 : w.heap.size + 2 < w3.heap.size := by omega); (try have hl3_1_0 : w1.heap.size < w3.heap.size := by omega); (try have hm3_1_0 : w1.heap.size ≤ w3.heap.size := by omega); (try have hl3_1_1 : w1.heap.size + 1 < w3.heap.size := by omega); (try have hl3_1_2 : w1.heap.size + 2 < w3.heap.size := by omega); (try have hl3_2_0 : w2.heap.size < w3.heap.size := by omega); (try have hm3_2_0 : w2.heap.size ≤ w3.heap.size := by omega); (try have hl3_2_1 : w2.heap.size + 1 < w3.heap.size := by omega); (try have hl3_2_2 : w2.heap.size + 2 < w3.heap.size := by omega)))
  go_ret
  exact ⟨ret_bool rfl, (by repeat (first | refine Gr.setCell ?_ (by first | omega | (simp; done) | (simp; omega)) _ | refine Gr.alloc ?_ _ | refine Gr.drew ?_ | refine Gr.drewN ?_ _ | with_reducible assumption | with_reducible exact Gr.refl _ | refine Gr.trans ?_ (by with_reducible assumption)))⟩

/-- to add to the label of frame x -/
theorem add_label (x n b : Int) (d : Bool) (hx : I64 x) (hn : I64 n) (ho : okB b d = true) (w : World) :
    Calls Try.prog 28 #[.agg #[.int .i64 (lm x b d / 60), .int .i64 (lm x b d % 60), .int .i64 (lf x b d / b), .int .i64 (lf x b d % b), .int .i64 b, .bool d], .int .i64 n] w fun e w' => e = .returned (.tuple #[.agg #[.int .i64 (lm (x + n) b d / 60), .int .i64 (lm (x + n) b d % 60), .int .i64 (lf (x + n) b d / b), .int .i64 (lf (x + n) b d % b), .int .i64 b, .bool d], .int .i64 0]) ∧ Gr w w' := by
  have hd := dayN_pos ho
  have m0 : 0 ≤ n % dayN b d := Int.emod_nonneg _ (by omega)
  have m1 : n % dayN b d < dayN b d := Int.emod_lt_of_pos _ hd.1
  have k0 : 0 ≤ x % dayN b d := Int.emod_nonneg _ (by omega)
  have k1 : x % dayN b d < dayN b d := Int.emod_lt_of_pos _ hd.1
  obtain ⟨h1, h2, h3⟩ := label_num (r := x % dayN b d) ho k0 k1
  refine add_yes _ _ _ _ b n (x % dayN b d) (dayN b d) _ _ _ _ d w hn k0 k1 hd.1 hd.2 (fun w => ?_) (fun w => day_yes b d w ho) (fun w => ?_)
  · have := number_any (lm x b d / 60) (lm x b d % 60) (lf x b d / b) (lf x b d % b) b d w
    unfold lm lf at this ⊢
    unfold nmV nmE at this
    rw [ho, h1, h2, h3] at this
    exact this
  · have := label_any (x % dayN b d + n % dayN b d) b d w (by unfold I64; omega) ho
    have c := lm_cong (b := b) (d := d) (x := x % dayN b d + n % dayN b d) (y := x + n) (by rw [← Int.add_emod])
    rw [c.1, c.2] at this
    exact this

theorem sums_facts (h m s f b p n : Int) (d : Bool) (hp : -2147483648 ≤ p ∧ p ≤ 2147483647) (hn : -2147483648 ≤ n ∧ n ≤ 2147483647) :
    (∃ y0 y1 y2 y3 y4 : Int, ∃ y5 : Bool, ∃ E : Int, (E = 1 ∨ E = 2) ∧ ∀ w, Calls Try.prog 28 #[.agg #[.int .i64 h, .int .i64 m, .int .i64 s, .int .i64 f, .int .i64 b, .bool d], .int .i64 p] w fun e w' => e = .returned (.tuple #[.agg #[.int .i64 y0, .int .i64 y1, .int .i64 y2, .int .i64 y3, .int .i64 y4, .bool y5], .int .i64 E]) ∧ Gr w w') ∨
    (∃ a0 a1 a2 a3 z0 z1 z2 z3 : Int,
      (∀ w, Calls Try.prog 28 #[.agg #[.int .i64 h, .int .i64 m, .int .i64 s, .int .i64 f, .int .i64 b, .bool d], .int .i64 p] w fun e w' => e = .returned (.tuple #[.agg #[.int .i64 a0, .int .i64 a1, .int .i64 a2, .int .i64 a3, .int .i64 b, .bool d], .int .i64 0]) ∧ Gr w w') ∧
      (∀ w, Calls Try.prog 28 #[.agg #[.int .i64 a0, .int .i64 a1, .int .i64 a2, .int .i64 a3, .int .i64 b, .bool d], .int .i64 n] w fun e w' => e = .returned (.tuple #[.agg #[.int .i64 z0, .int .i64 z1, .int .i64 z2, .int .i64 z3, .int .i64 b, .bool d], .int .i64 0]) ∧ Gr w w') ∧
      (∀ w, Calls Try.prog 28 #[.agg #[.int .i64 h, .int .i64 m, .int .i64 s, .int .i64 f, .int .i64 b, .bool d], .int .i64 (p + n)] w fun e w' => e = .returned (.tuple #[.agg #[.int .i64 z0, .int .i64 z1, .int .i64 z2, .int .i64 z3, .int .i64 b, .bool d], .int .i64 0]) ∧ Gr w w') ∧
      (∀ w, Calls Try.prog 28 #[.agg #[.int .i64 a0, .int .i64 a1, .int .i64 a2, .int .i64 a3, .int .i64 b, .bool d], .int .i64 (-p)] w fun e w' => e = .returned (.tuple #[.agg #[.int .i64 h, .int .i64 m, .int .i64 s, .int .i64 f, .int .i64 b, .bool d], .int .i64 0]) ∧ Gr w w')) := by
  have HN := fun w => number_any h m s f b d w
  rcases nmE_cases h m s f b d with ⟨e0, ho, hi, hm, e1⟩ | ⟨e0, e1⟩
  · right
    have nb := num_bounds ho hi hm
    have hd := dayN_pos ho
    obtain ⟨p1, p2, p3, p4⟩ := inN_out hi
    have hb := okB_bounds ho
    have ll := num_label ho hi hm
    have lp := label_parts (h := h) (m := m) (s := s) (f := f) hb.1 p2 p4
    rw [← ll.1, ← ll.2] at lp
    generalize numN h m s f b d = V at *
    have key : ∀ x w, I64 x → Calls Try.prog 28 #[.agg #[.int .i64 h, .int .i64 m, .int .i64 s, .int .i64 f, .int .i64 b, .bool d], .int .i64 x] w fun e w' => e = .returned (.tuple #[.agg #[.int .i64 (lm (V + x) b d / 60), .int .i64 (lm (V + x) b d % 60), .int .i64 (lf (V + x) b d / b), .int .i64 (lf (V + x) b d % b), .int .i64 b, .bool d], .int .i64 0]) ∧ Gr w w' := fun x w hx => by
      have := add_label V x b d (by unfold I64; omega) hx ho w
      rw [lp.1, lp.2.1, lp.2.2.1, lp.2.2.2] at this
      exact this
    refine ⟨lm (V + p) b d / 60, lm (V + p) b d % 60, lf (V + p) b d / b, lf (V + p) b d % b, lm (V + p + n) b d / 60, lm (V + p + n) b d % 60, lf (V + p + n) b d / b, lf (V + p + n) b d % b, fun w => key p w (by unfold I64; omega), fun w => add_label (V + p) n b d (by unfold I64; omega) (by unfold I64; omega) ho w, fun w => ?_, fun w => ?_⟩
    · have := key (p + n) w (by unfold I64; omega)
      rw [← Int.add_assoc] at this
      exact this
    · have := add_label (V + p) (-p) b d (by unfold I64; omega) (by unfold I64; omega) ho w
      rw [show V + p + -p = V by omega, lp.1, lp.2.1, lp.2.2.1, lp.2.2.2] at this
      exact this
  · left
    exact ⟨0, 0, 0, 0, 0, false, nmE h m s f b d, e0, fun w => add_no h m s f b p _ _ d w e0 HN⟩

set_option maxHeartbeats 1000000 in
theorem lawSums_walk (h m s f b p n : Int) (d : Bool) (w : World) (hp : -2147483648 ≤ p ∧ p ≤ 2147483647) (hn : -2147483648 ≤ n ∧ n ≤ 2147483647) :
    Calls Try.prog 12 #[.agg #[.int .i64 h, .int .i64 m, .int .i64 s, .int .i64 f, .int .i64 b, .bool d], .int .i32 p, .int .i32 n] w fun e w' => e = .returned (.bool true) ∧ Gr w w' := by
  rcases sums_facts h m s f b p n d hp hn with ⟨y0, y1, y2, y3, y4, y5, E, hE, H1⟩ | ⟨a0, a1, a2, a3, z0, z1, z2, z3, H1, H2, H3, H4⟩
  · have H1 := Lib.hid H1
    obtain ⟨hp1, hp2⟩ := hp
    obtain ⟨hn1, hn2⟩ := hn
    rcases hE with rfl | rfl
    all_goals
      go_enter Try.func12, Try.ntmps12
      go_wp2_with (first
        | (go_at_call 28; refine (H1.out _).mono ?_; rintro e w1 ⟨rfl, hg1⟩; obtain ⟨hc1, hf1⟩ := hg1.cells; have hz1 := hg1.size; (try simp at hz1); (try have hl1_0_0 : w.heap.size < w1.heap.size := by omega); (try have hm1_0_0 : w.heap.size ≤ w1.heap.size := by omega); (try have hl1_0_1 : w.heap.size + 1 < w1.heap.size := by omega); (try have hl1_0_2 : w.heap.size + 2 < w1.heap.size := by omega))
        | (go_at_call 20; refine (awake_any _).mono ?_; rintro e w3 ⟨rfl, hg3⟩; obtain ⟨hc3, hf3⟩ := hg3.cells; have hz3 := hg3.size; (try simp at hz3); (try have hl3_0_0 : w.heap.size < w3.heap.size := by omega); (try have hm3_0_0 : w.heap.size ≤ w3.heap.size := by omega); (try have hl3_0_1 : w.heap.size + 1 < w3.heap.size := by omega); (try have hl3_0_2 : w.heap.size + 2 < w3.heap.size := by omega); (try have hl3_1_0 : w1.heap.size < w3.heap.size := by omega); (try have hm3_1_0 : w1.heap.size ≤ w3.heap.size := by omega); (try have hl3_1_1 : w1.heap.size + 1 < w3.heap.size := by omega); (try have hl3_1_2 : w1.heap.size + 2 < w3.heap.size := by omega); (try have hl3_2_0 : w2.heap.size < w3.heap.size := by omega); (try have hm3_2_0 : w2.heap.size ≤ w3.heap.size := by omega); (try have hl3_2_1 : w2.heap.size + 1 < w3.heap.size := by omega); (try have hl3_2_2 : w2.heap.size + 2 < w3.heap.size := by omega)))
      go_ret
      exact ⟨ret_bool rfl, (by repeat (first | refine Gr.setCell ?_ (by first | omega | (simp; done) | (simp; omega)) _ | refine Gr.alloc ?_ _ | refine Gr.drew ?_ | refine Gr.drewN ?_ _ | with_reducible assumption | with_reducible exact Gr.refl _ | refine Gr.trans ?_ (by with_reducible assumption)))⟩
  · have H1 := Lib.hid H1
    have H2 := Lib.hid H2
    have H3 := Lib.hid H3
    have H4 := Lib.hid H4
    obtain ⟨hp1, hp2⟩ := hp
    obtain ⟨hn1, hn2⟩ := hn
    go_enter Try.func12, Try.ntmps12
    go_wp2_with (first
      | (go_at_call 28; with_reducible refine (H1.out _).mono ?_; rintro e w1 ⟨rfl, hg1⟩; obtain ⟨hc1, hf1⟩ := hg1.cells; have hz1 := hg1.size; (try simp at hz1); (try have hl1_0_0 : w.heap.size < w1.heap.size := by omega); (try have hm1_0_0 : w.heap.size ≤ w1.heap.size := by omega); (try have hl1_0_1 : w.heap.size + 1 < w1.heap.size := by omega); (try have hl1_0_2 : w.heap.size + 2 < w1.heap.size := by omega))
      | (go_at_call 28; with_reducible refine (H2.out _).mono ?_; rintro e w2 ⟨rfl, hg2⟩; obtain ⟨hc2, hf2⟩ := hg2.cells; have hz2 := hg2.size; (try simp at hz2); (try have hl2_0_0 : w.heap.size < w2.heap.size := by omega); (try have hm2_0_0 : w.heap.size ≤ w2.heap.size := by omega); (try have hl2_0_1 : w.heap.size + 1 < w2.heap.size := by omega); (try have hl2_0_2 : w.heap.size + 2 < w2.heap.size := by omega); (try have hl2_1_0 : w1.heap.size < w2.heap.size := by omega); (try have hm2_1_0 : w1.heap.size ≤ w2.heap.size := by omega); (try have hl2_1_1 : w1.heap.size + 1 < w2.heap.size := by omega); (try have hl2_1_2 : w1.heap.size + 2 < w2.heap.size := by omega))
      | (go_at_call 28; with_reducible refine (H3.out _).mono ?_; rintro e w3 ⟨rfl, hg3⟩; obtain ⟨hc3, hf3⟩ := hg3.cells; have hz3 := hg3.size; (try simp at hz3); (try have hl3_0_0 : w.heap.size < w3.heap.size := by omega); (try have hm3_0_0 : w.heap.size ≤ w3.heap.size := by omega); (try have hl3_0_1 : w.heap.size + 1 < w3.heap.size := by omega); (try have hl3_0_2 : w.heap.size + 2 < w3.heap.size := by omega); (try have hl3_1_0 : w1.heap.size < w3.heap.size := by omega); (try have hm3_1_0 : w1.heap.size ≤ w3.heap.size := by omega); (try have hl3_1_1 : w1.heap.size + 1 < w3.heap.size := by omega); (try have hl3_1_2 : w1.heap.size + 2 < w3.heap.size := by omega); (try have hl3_2_0 : w2.heap.size < w3.heap.size := by omega); (try have hm3_2_0 : w2.heap.size ≤ w3.heap.size := by omega); (try have hl3_2_1 : w2.heap.size + 1 < w3.heap.size := by omega); (try have hl3_2_2 : w2.heap.size + 2 < w3.heap.size := by omega))
      | (go_at_call 28; with_reducible refine (H4.out _).mono ?_; rintro e w4 ⟨rfl, hg4⟩; obtain ⟨hc4, hf4⟩ := hg4.cells; have hz4 := hg4.size; (try simp at hz4); (try have hl4_0_0 : w.heap.size < w4.heap.size := by omega); (try have hm4_0_0 : w.heap.size ≤ w4.heap.size := by omega); (try have hl4_0_1 : w.heap.size + 1 < w4.heap.size := by omega); (try have hl4_0_2 : w.heap.size + 2 < w4.heap.size := by omega); (try have hl4_1_0 : w1.heap.size < w4.heap.size := by omega); (try have hm4_1_0 : w1.heap.size ≤ w4.heap.size := by omega); (try have hl4_1_1 : w1.heap.size + 1 < w4.heap.size := by omega); (try have hl4_1_2 : w1.heap.size + 2 < w4.heap.size := by omega); (try have hl4_2_0 : w2.heap.size < w4.heap.size := by omega); (try have hm4_2_0 : w2.heap.size ≤ w4.heap.size := by omega); (try have hl4_2_1 : w2.heap.size + 1 < w4.heap.size := by omega); (try have hl4_2_2 : w2.heap.size + 2 < w4.heap.size := by omega); (try have hl4_3_0 : w3.heap.size < w4.heap.size := by omega); (try have hm4_3_0 : w3.heap.size ≤ w4.heap.size := by omega); (try have hl4_3_1 : w3.heap.size + 1 < w4.heap.size := by omega); (try have hl4_3_2 : w3.heap.size + 2 < w4.heap.size := by omega))
      | (go_at_call 20; refine (awake_any _).mono ?_; rintro e w5 ⟨rfl, hg5⟩))
    go_ret
    exact ⟨ret_bool rfl, (by repeat (first | refine Gr.setCell ?_ (by first | omega | (simp; done) | (simp; omega)) _ | refine Gr.alloc ?_ _ | refine Gr.drew ?_ | refine Gr.drewN ?_ _ | with_reducible assumption | with_reducible exact Gr.refl _ | refine Gr.trans ?_ (by with_reducible assumption)))⟩
end Go.Proofs.Ytehdkoillpebgaa
