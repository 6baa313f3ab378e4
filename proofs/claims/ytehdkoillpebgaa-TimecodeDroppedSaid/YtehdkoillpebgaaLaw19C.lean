/-
  Walk of the law TimecodeDropped: it returns true.
  Conditions: none beyond the kinds of the arguments.
-/
import Derived.Test.YtehdkoillpebgaaWalk19L
import Derived.Test.YtehdkoillpebgaaWalk19H
namespace Go.Proofs.Ytehdkoillpebgaa
open Go.RowKit
set_option linter.unusedSimpArgs false
set_option linter.unusedVariables false

set_option maxHeartbeats 1000000 in
theorem lawDropped30_out (h m s f : Int) (w : World) (hi : inN h m s f 30 = false) :
    Calls Try.prog 9 #[.int .i64 h, .int .i64 m, .int .i64 s, .int .i64 f, .bool false] w fun e w' => e = .returned (.bool true) ∧ Gr w w' := by
  have H1 := Lib.hid (fun w => number_out h m s f 30 true w (by decide) hi)
  have H2 := Lib.hid (fun w => number_out h m s f 30 false w (by decide) hi)
  rcases ref_out hi with h1 | ⟨h1, h2⟩ | ⟨h1, h2⟩ | ⟨h1, h2, h3⟩ | ⟨h1, h2, h3⟩ | ⟨h1, h2, h3, h4⟩ | ⟨h1, h2, h3, h4⟩ | ⟨h1, h2, h3, h4, h5⟩
  all_goals
    clear hi
    first | have c1 : decide (0 ≤ h) = true := decide_eq_true (by omega) | have c1 : decide (0 ≤ h) = false := decide_eq_false (by omega)
    first | have c2 : decide (h ≤ 23) = true := decide_eq_true (by omega) | have c2 : decide (h ≤ 23) = false := decide_eq_false (by omega)
    (try first | have c3 : decide (0 ≤ m) = true := decide_eq_true (by omega) | have c3 : decide (0 ≤ m) = false := decide_eq_false (by omega))
    (try first | have c4 : decide (m ≤ 59) = true := decide_eq_true (by omega) | have c4 : decide (m ≤ 59) = false := decide_eq_false (by omega))
    (try first | have c5 : decide (0 ≤ s) = true := decide_eq_true (by omega) | have c5 : decide (0 ≤ s) = false := decide_eq_false (by omega))
    (try first | have c6 : decide (s ≤ 59) = true := decide_eq_true (by omega) | have c6 : decide (s ≤ 59) = false := decide_eq_false (by omega))
    (try first | have c7 : decide (0 ≤ f) = true := decide_eq_true (by omega) | have c7 : decide (0 ≤ f) = false := decide_eq_false (by omega))
    (try first | have c8 : decide (f < 30) = true := decide_eq_true (by omega) | have c8 : decide (f < 30) = false := decide_eq_false (by omega))
    clear h1; (try clear h2); (try clear h3); (try clear h4); (try clear h5)
    go_enter Try.func9, Try.ntmps9
    go_wp2_with (first
      | (go_at_call 25; with_reducible refine (H1.out _).mono ?_; rintro e w1 ⟨rfl, hg1⟩; obtain ⟨hc1, hf1⟩ := hg1.cells)
      | (go_at_call 25; with_reducible refine (H2.out _).mono ?_; rintro e w2 ⟨rfl, hg2⟩; obtain ⟨hc2, hf2⟩ := hg2.cells)
      | (go_at_call 20; refine (awake_any _).mono ?_; rintro e w3 ⟨rfl, hg3⟩))
    go_ret
    exact ⟨ret_bool rfl, (by repeat (first | refine Gr.setCell ?_ (by first | omega | (simp; done) | (simp; omega)) _ | refine Gr.alloc ?_ _ | refine Gr.drew ?_ | refine Gr.drewN ?_ _ | with_reducible assumption | with_reducible exact Gr.refl _ | refine Gr.trans ?_ (by with_reducible assumption)))⟩

theorem lawDropped30_dm (h m s f : Int) (hi : inN h m s f 30 = true) : miss h m s f 30 true = decide (s = 0 ∧ ¬ m % 10 = 0 ∧ f < 2) ∧ miss h m s f 30 false = false := by
  obtain ⟨p1, p2, p3, p4⟩ := inN_out hi
  have e : (60 * h + m) % 10 = m % 10 := by omega
  unfold miss dm
  rw [e]
  refine ⟨?_, decide_eq_false ?_⟩
  · by_cases h0 : m % 10 = 0
    · rw [if_pos h0, decide_eq_false (show ¬ (s = 0 ∧ ¬ m % 10 = 0 ∧ f < 2) by omega)]
      exact decide_eq_false (by omega)
    · rw [if_neg h0]
      have : drp 30 true = 2 := by decide
      rw [this]
      by_cases h2 : s = 0 ∧ f < 2
      · rw [decide_eq_true h2, decide_eq_true (show s = 0 ∧ ¬ m % 10 = 0 ∧ f < 2 by omega)]
      · rw [decide_eq_false h2, decide_eq_false (show ¬ (s = 0 ∧ ¬ m % 10 = 0 ∧ f < 2) by omega)]
  · rintro ⟨x, y⟩
    have : (if m % 10 = 0 then (0 : Int) else drp 30 false) = 0 := by split <;> rfl
    rw [this] at y
    omega

set_option maxHeartbeats 1000000 in
theorem lawDropped30_in (h m s f : Int) (w : World) (hi : inN h m s f 30 = true) :
    Calls Try.prog 9 #[.int .i64 h, .int .i64 m, .int .i64 s, .int .i64 f, .bool false] w fun e w' => e = .returned (.bool true) ∧ Gr w w' := by
  obtain ⟨V1, E1, H1, HE1⟩ : ∃ V E, Hid (∀ w, Calls Try.prog 25 #[.agg #[.int .i64 h, .int .i64 m, .int .i64 s, .int .i64 f, .int .i64 30, .bool true]] w fun e w' => e = .returned (.tuple #[.int .i64 V, .int .i64 E]) ∧ Gr w w') ∧ E = if decide (s = 0 ∧ ¬ m % 10 = 0 ∧ f < 2) then 2 else 0 := by
    refine ⟨_, _, Lib.hid (fun w => number_any h m s f 30 true w), ?_⟩
    have := (lawDropped30_dm h m s f hi).1
    unfold nmE
    rw [hi, this, show okB 30 true = true by decide]
    cases decide (s = 0 ∧ ¬ m % 10 = 0 ∧ f < 2) <;> rfl
  obtain ⟨V2, H2⟩ : ∃ V, Hid (∀ w, Calls Try.prog 25 #[.agg #[.int .i64 h, .int .i64 m, .int .i64 s, .int .i64 f, .int .i64 30, .bool false]] w fun e w' => e = .returned (.tuple #[.int .i64 V, .int .i64 0]) ∧ Gr w w') := by
    have : nmE h m s f 30 false = 0 := by
      unfold nmE
      rw [hi, (lawDropped30_dm h m s f hi).2, show okB 30 false = true by decide]; rfl
    exact ⟨_, Lib.hid (fun w => by have q := number_any h m s f 30 false w; rw [this] at q; exact q)⟩
  obtain ⟨p1, p2, p3, p4⟩ := inN_out hi
  have t : m.tmod 10 = m % 10 := Int.tmod_eq_emod_of_nonneg p2.1
  have c1 : decide (0 ≤ h) = true := decide_eq_true (by omega)
  have c2 : decide (h ≤ 23) = true := decide_eq_true (by omega)
  have c3 : decide (0 ≤ m) = true := decide_eq_true (by omega)
  have c4 : decide (m ≤ 59) = true := decide_eq_true (by omega)
  have c5 : decide (0 ≤ s) = true := decide_eq_true (by omega)
  have c6 : decide (s ≤ 59) = true := decide_eq_true (by omega)
  have c7 : decide (0 ≤ f) = true := decide_eq_true (by omega)
  have c8 : decide (f < 30) = true := decide_eq_true (by omega)
  rcases (show m % 10 = 0 ∨ (¬ m % 10 = 0 ∧ 0 < s) ∨ (¬ m % 10 = 0 ∧ s = 0 ∧ 2 ≤ f) ∨ (¬ m % 10 = 0 ∧ s = 0 ∧ f < 2) by omega) with h1 | ⟨h1, h2⟩ | ⟨h1, h2, h3⟩ | ⟨h1, h2, h3⟩
  all_goals
    first
    | rw [decide_eq_true (show s = 0 ∧ ¬ m % 10 = 0 ∧ f < 2 by omega), if_pos rfl] at HE1
    | rw [decide_eq_false (show ¬ (s = 0 ∧ ¬ m % 10 = 0 ∧ f < 2) by omega), if_neg (by decide)] at HE1
    subst HE1
    clear hi t
    first | have k1 : (m % 10 == 0) = true := by simpa using h1 | have k1 : (m % 10 == 0) = false := by simpa using h1
    first | have k2 : decide (0 < s) = true := decide_eq_true (by omega) | have k2 : decide (0 < s) = false := decide_eq_false (by omega) | skip
    first | have k3 : decide (2 ≤ f) = true := decide_eq_true (by omega) | have k3 : decide (2 ≤ f) = false := decide_eq_false (by omega) | skip
    clear h1; (try clear h2); (try clear h3)
    go_enter Try.func9, Try.ntmps9
    go_wp2_with (first
      | (go_at_call 25; with_reducible refine (H1.out _).mono ?_; rintro e w1 ⟨rfl, hg1⟩; obtain ⟨hc1, hf1⟩ := hg1.cells)
      | (go_at_call 25; with_reducible refine (H2.out _).mono ?_; rintro e w2 ⟨rfl, hg2⟩; obtain ⟨hc2, hf2⟩ := hg2.cells)
      | (go_at_call 20; refine (awake_any _).mono ?_; rintro e w3 ⟨rfl, hg3⟩))
    go_ret
    exact ⟨ret_bool rfl, (by repeat (first | refine Gr.setCell ?_ (by first | omega | (simp; done) | (simp; omega)) _ | refine Gr.alloc ?_ _ | refine Gr.drew ?_ | refine Gr.drewN ?_ _ | with_reducible assumption | with_reducible exact Gr.refl _ | refine Gr.trans ?_ (by with_reducible assumption)))⟩
set_option maxHeartbeats 1000000 in
theorem lawDropped60_out (h m s f : Int) (w : World) (hi : inN h m s f 60 = false) :
    Calls Try.prog 9 #[.int .i64 h, .int .i64 m, .int .i64 s, .int .i64 f, .bool true] w fun e w' => e = .returned (.bool true) ∧ Gr w w' := by
  have H1 := Lib.hid (fun w => number_out h m s f 60 true w (by decide) hi)
  have H2 := Lib.hid (fun w => number_out h m s f 60 false w (by decide) hi)
  rcases ref_out hi with h1 | ⟨h1, h2⟩ | ⟨h1, h2⟩ | ⟨h1, h2, h3⟩ | ⟨h1, h2, h3⟩ | ⟨h1, h2, h3, h4⟩ | ⟨h1, h2, h3, h4⟩ | ⟨h1, h2, h3, h4, h5⟩
  all_goals
    clear hi
    first | have c1 : decide (0 ≤ h) = true := decide_eq_true (by omega) | have c1 : decide (0 ≤ h) = false := decide_eq_false (by omega)
    first | have c2 : decide (h ≤ 23) = true := decide_eq_true (by omega) | have c2 : decide (h ≤ 23) = false := decide_eq_false (by omega)
    (try first | have c3 : decide (0 ≤ m) = true := decide_eq_true (by omega) | have c3 : decide (0 ≤ m) = false := decide_eq_false (by omega))
    (try first | have c4 : decide (m ≤ 59) = true := decide_eq_true (by omega) | have c4 : decide (m ≤ 59) = false := decide_eq_false (by omega))
    (try first | have c5 : decide (0 ≤ s) = true := decide_eq_true (by omega) | have c5 : decide (0 ≤ s) = false := decide_eq_false (by omega))
    (try first | have c6 : decide (s ≤ 59) = true := decide_eq_true (by omega) | have c6 : decide (s ≤ 59) = false := decide_eq_false (by omega))
    (try first | have c7 : decide (0 ≤ f) = true := decide_eq_true (by omega) | have c7 : decide (0 ≤ f) = false := decide_eq_false (by omega))
    (try first | have c8 : decide (f < 60) = true := decide_eq_true (by omega) | have c8 : decide (f < 60) = false := decide_eq_false (by omega))
    clear h1; (try clear h2); (try clear h3); (try clear h4); (try clear h5)
    go_enter Try.func9, Try.ntmps9
    go_wp2_with (first
      | (go_at_call 25; with_reducible refine (H1.out _).mono ?_; rintro e w1 ⟨rfl, hg1⟩; obtain ⟨hc1, hf1⟩ := hg1.cells)
      | (go_at_call 25; with_reducible refine (H2.out _).mono ?_; rintro e w2 ⟨rfl, hg2⟩; obtain ⟨hc2, hf2⟩ := hg2.cells)
      | (go_at_call 20; refine (awake_any _).mono ?_; rintro e w3 ⟨rfl, hg3⟩))
    go_ret
    exact ⟨ret_bool rfl, (by repeat (first | refine Gr.setCell ?_ (by first | omega | (simp; done) | (simp; omega)) _ | refine Gr.alloc ?_ _ | refine Gr.drew ?_ | refine Gr.drewN ?_ _ | with_reducible assumption | with_reducible exact Gr.refl _ | refine Gr.trans ?_ (by with_reducible assumption)))⟩

theorem lawDropped60_dm (h m s f : Int) (hi : inN h m s f 60 = true) : miss h m s f 60 true = decide (s = 0 ∧ ¬ m % 10 = 0 ∧ f < 4) ∧ miss h m s f 60 false = false := by
  obtain ⟨p1, p2, p3, p4⟩ := inN_out hi
  have e : (60 * h + m) % 10 = m % 10 := by omega
  unfold miss dm
  rw [e]
  refine ⟨?_, decide_eq_false ?_⟩
  · by_cases h0 : m % 10 = 0
    · rw [if_pos h0, decide_eq_false (show ¬ (s = 0 ∧ ¬ m % 10 = 0 ∧ f < 4) by omega)]
      exact decide_eq_false (by omega)
    · rw [if_neg h0]
      have : drp 60 true = 4 := by decide
      rw [this]
      by_cases h2 : s = 0 ∧ f < 4
      · rw [decide_eq_true h2, decide_eq_true (show s = 0 ∧ ¬ m % 10 = 0 ∧ f < 4 by omega)]
      · rw [decide_eq_false h2, decide_eq_false (show ¬ (s = 0 ∧ ¬ m % 10 = 0 ∧ f < 4) by omega)]
  · rintro ⟨x, y⟩
    have : (if m % 10 = 0 then (0 : Int) else drp 60 false) = 0 := by split <;> rfl
    rw [this] at y
    omega

set_option maxHeartbeats 1000000 in
theorem lawDropped60_in (h m s f : Int) (w : World) (hi : inN h m s f 60 = true) :
    Calls Try.prog 9 #[.int .i64 h, .int .i64 m, .int .i64 s, .int .i64 f, .bool true] w fun e w' => e = .returned (.bool true) ∧ Gr w w' := by
  obtain ⟨V1, E1, H1, HE1⟩ : ∃ V E, Hid (∀ w, Calls Try.prog 25 #[.agg #[.int .i64 h, .int .i64 m, .int .i64 s, .int .i64 f, .int .i64 60, .bool true]] w fun e w' => e = .returned (.tuple #[.int .i64 V, .int .i64 E]) ∧ Gr w w') ∧ E = if decide (s = 0 ∧ ¬ m % 10 = 0 ∧ f < 4) then 2 else 0 := by
    refine ⟨_, _, Lib.hid (fun w => number_any h m s f 60 true w), ?_⟩
    have := (lawDropped60_dm h m s f hi).1
    unfold nmE
    rw [hi, this, show okB 60 true = true by decide]
    cases decide (s = 0 ∧ ¬ m % 10 = 0 ∧ f < 4) <;> rfl
  obtain ⟨V2, H2⟩ : ∃ V, Hid (∀ w, Calls Try.prog 25 #[.agg #[.int .i64 h, .int .i64 m, .int .i64 s, .int .i64 f, .int .i64 60, .bool false]] w fun e w' => e = .returned (.tuple #[.int .i64 V, .int .i64 0]) ∧ Gr w w') := by
    have : nmE h m s f 60 false = 0 := by
      unfold nmE
      rw [hi, (lawDropped60_dm h m s f hi).2, show okB 60 false = true by decide]; rfl
    exact ⟨_, Lib.hid (fun w => by have q := number_any h m s f 60 false w; rw [this] at q; exact q)⟩
  obtain ⟨p1, p2, p3, p4⟩ := inN_out hi
  have t : m.tmod 10 = m % 10 := Int.tmod_eq_emod_of_nonneg p2.1
  have c1 : decide (0 ≤ h) = true := decide_eq_true (by omega)
  have c2 : decide (h ≤ 23) = true := decide_eq_true (by omega)
  have c3 : decide (0 ≤ m) = true := decide_eq_true (by omega)
  have c4 : decide (m ≤ 59) = true := decide_eq_true (by omega)
  have c5 : decide (0 ≤ s) = true := decide_eq_true (by omega)
  have c6 : decide (s ≤ 59) = true := decide_eq_true (by omega)
  have c7 : decide (0 ≤ f) = true := decide_eq_true (by omega)
  have c8 : decide (f < 60) = true := decide_eq_true (by omega)
  rcases (show m % 10 = 0 ∨ (¬ m % 10 = 0 ∧ 0 < s) ∨ (¬ m % 10 = 0 ∧ s = 0 ∧ 4 ≤ f) ∨ (¬ m % 10 = 0 ∧ s = 0 ∧ f < 4) by omega) with h1 | ⟨h1, h2⟩ | ⟨h1, h2, h3⟩ | ⟨h1, h2, h3⟩
  all_goals
    first
    | rw [decide_eq_true (show s = 0 ∧ ¬ m % 10 = 0 ∧ f < 4 by omega), if_pos rfl] at HE1
    | rw [decide_eq_false (show ¬ (s = 0 ∧ ¬ m % 10 = 0 ∧ f < 4) by omega), if_neg (by decide)] at HE1
    subst HE1
    clear hi t
    first | have k1 : (m % 10 == 0) = true := by simpa using h1 | have k1 : (m % 10 == 0) = false := by simpa using h1
    first | have k2 : decide (0 < s) = true := decide_eq_true (by omega) | have k2 : decide (0 < s) = false := decide_eq_false (by omega) | skip
    first | have k3 : decide (4 ≤ f) = true := decide_eq_true (by omega) | have k3 : decide (4 ≤ f) = false := decide_eq_false (by omega) | skip
    clear h1; (try clear h2); (try clear h3)
    go_enter Try.func9, Try.ntmps9
    go_wp2_with (first
      | (go_at_call 25; with_reducible refine (H1.out _).mono ?_; rintro e w1 ⟨rfl, hg1⟩; obtain ⟨hc1, hf1⟩ := hg1.cells)
      | (go_at_call 25; with_reducible refine (H2.out _).mono ?_; rintro e w2 ⟨rfl, hg2⟩; obtain ⟨hc2, hf2⟩ := hg2.cells)
      | (go_at_call 20; refine (awake_any _).mono ?_; rintro e w3 ⟨rfl, hg3⟩))
    go_ret
    exact ⟨ret_bool rfl, (by repeat (first | refine Gr.setCell ?_ (by first | omega | (simp; done) | (simp; omega)) _ | refine Gr.alloc ?_ _ | refine Gr.drew ?_ | refine Gr.drewN ?_ _ | with_reducible assumption | with_reducible exact Gr.refl _ | refine Gr.trans ?_ (by with_reducible assumption)))⟩
theorem lawDropped_walk (h m s f : Int) (x : Bool) (w : World) :
    Calls Try.prog 9 #[.int .i64 h, .int .i64 m, .int .i64 s, .int .i64 f, .bool x] w fun e w' => e = .returned (.bool true) ∧ Gr w w' := by
  cases x
  · by_cases hi : inN h m s f 30 = true
    · exact lawDropped30_in h m s f w hi
    · exact lawDropped30_out h m s f w (by simpa using hi)
  · by_cases hi : inN h m s f 60 = true
    · exact lawDropped60_in h m s f w hi
    · exact lawDropped60_out h m s f w (by simpa using hi)
end Go.Proofs.Ytehdkoillpebgaa
