
/-
  Contracts of within, position and Number of package timecode.
  Conditions: the arguments are integers of their kinds.
-/
import Derived.Test.YtgbiodnfpbhjiaaGreatDoorWalk19C
import Derived.Test.YtgbiodnfpbhjiaaGreatDoorMath19C
namespace Go.Proofs.YtgbiodnfpbhjiaaGreatDoor.C19
open Go.RowKit
set_option linter.unusedSimpArgs false
set_option linter.unusedVariables false

theorem within_any (x l : Int) (w : World) :
    Calls Tryz.prog 211 #[.int .i64 x, .int .i64 l] w fun e w' => e = .returned (.bool (wi x l)) ∧ w = w' := by
  by_cases h1 : 0 ≤ x
  · by_cases h2 : x < l
    · have hb : wi x l = true := decide_eq_true ⟨h1, h2⟩
      have d1 : decide (0 ≤ x) = true := decide_eq_true h1
      have d2 : decide (x < l) = true := decide_eq_true h2
      rw [hb]
      clear h1 h2 hb
      go_enter Tryz.func211, Tryz.ntmps211
      go_wp2
      go_ret
      exact ⟨ret_bool rfl, rfl⟩
    · have hb : wi x l = false := decide_eq_false (fun x => h2 x.2)
      have d1 : decide (0 ≤ x) = true := decide_eq_true h1
      have d2 : decide (x < l) = false := decide_eq_false h2
      rw [hb]
      clear h1 h2 hb
      go_enter Tryz.func211, Tryz.ntmps211
      go_wp2
      go_ret
      exact ⟨ret_bool rfl, rfl⟩
  · have hb : wi x l = false := decide_eq_false (fun x => h1 x.1)
    have d1 : decide (0 ≤ x) = false := decide_eq_false h1
    rw [hb]
    clear h1 hb
    go_enter Tryz.func211, Tryz.ntmps211
    go_wp2
    go_ret
    exact ⟨ret_bool rfl, rfl⟩

theorem position_any (h m s f b : Int) (d : Bool) (w : World) (h1 : 0 ≤ h ∧ h < 24) (h2 : 0 ≤ m ∧ m < 60) (h3 : 0 ≤ s ∧ s < 60) (h4 : 0 ≤ f ∧ f < b) (hb : 24 ≤ b ∧ b ≤ 60) :
    Calls Tryz.prog 212 #[.agg #[.int .i64 h, .int .i64 m, .int .i64 s, .int .i64 f, .int .i64 b, .bool d]] w fun e w' => e = .returned (.int .i64 (((h * 60 + m) * 60 + s) * b + f)) ∧ Gr w w' := by
  obtain ⟨t, ht⟩ : ∃ t, (h * 60 + m) * 60 + s = t := ⟨_, rfl⟩
  have t1 : 0 ≤ t ∧ t < 86400 := by omega
  have t2 : 0 ≤ t * b := Int.mul_nonneg t1.1 (by omega)
  have t3 : t * b ≤ 86400 * b := Int.mul_le_mul_of_nonneg_right (by omega) (by omega)
  have t4 : 0 ≤ ((h * 60 + m) * 60 + s) * b := by rw [ht]; exact t2
  have t5 : ((h * 60 + m) * 60 + s) * b ≤ 5184000 := by rw [ht]; omega
  clear ht t1 t2 t3
  go_enter Tryz.func212, Tryz.ntmps212
  go_wp2
  simp [bodyPost, results, Tryz.results212, go_sem]
  exact (by repeat (first | refine Gr.setCell ?_ (by first | omega | (simp; done) | (simp; omega)) _ | refine Gr.alloc ?_ _ | refine Gr.drew ?_ | refine Gr.drewN ?_ _ | with_reducible assumption | with_reducible exact Gr.refl _ | refine Gr.trans ?_ (by with_reducible assumption)))

theorem number_no (h m s f b : Int) (d : Bool) (w : World) (ho : okB b d = false) :
    Calls Tryz.prog 176 #[.agg #[.int .i64 h, .int .i64 m, .int .i64 s, .int .i64 f, .int .i64 b, .bool d]] w fun e w' => e = .returned (.tuple #[.int .i64 0, .int .i64 1]) ∧ Gr w w' := by
  go_enter Tryz.func176, Tryz.ntmps176
  go_wp2_with (go_at_call 35; refine (day_no _ _ _ ho).mono ?_; rintro e w' ⟨rfl, rfl⟩)
  simp [bodyPost, results, Tryz.results176, go_sem]
  exact (by repeat (first | refine Gr.setCell ?_ (by first | omega | (simp; done) | (simp; omega)) _ | refine Gr.alloc ?_ _ | refine Gr.drew ?_ | refine Gr.drewN ?_ _ | with_reducible assumption | with_reducible exact Gr.refl _ | refine Gr.trans ?_ (by with_reducible assumption)))
theorem rnumber_no (h m s f b : Int) (d : Bool) (w : World) (ho : okB b d = false) :
    Calls Tryz.prog 136 #[.agg #[.int .i64 h, .int .i64 m, .int .i64 s, .int .i64 f, .int .i64 b, .bool d]] w fun e w' => e = .returned (.tuple #[.int .i64 0, .int .i64 1]) ∧ Gr w w' := by
  go_enter Tryz.func136, Tryz.ntmps136
  go_wp2_with (go_at_call 38; refine (rday_no _ _ _ ho).mono ?_; rintro e w' ⟨rfl, rfl⟩)
  simp [bodyPost, results, Tryz.results136, go_sem]
  exact (by repeat (first | refine Gr.setCell ?_ (by first | omega | (simp; done) | (simp; omega)) _ | refine Gr.alloc ?_ _ | refine Gr.drew ?_ | refine Gr.drewN ?_ _ | with_reducible assumption | with_reducible exact Gr.refl _ | refine Gr.trans ?_ (by with_reducible assumption)))

theorem inN_false {h m s f b : Int} (hi : inN h m s f b = false) : wi h 24 = false ∨ (wi h 24 = true ∧ wi m 60 = false) ∨ (wi h 24 = true ∧ wi m 60 = true ∧ wi s 60 = false) ∨ (wi h 24 = true ∧ wi m 60 = true ∧ wi s 60 = true ∧ wi f b = false) := by
  unfold inN at hi
  generalize wi h 24 = a at *
  generalize wi m 60 = c at *
  generalize wi s 60 = e at *
  generalize wi f b = g at *
  revert hi; revert a c e g; decide

set_option maxHeartbeats 400000 in
theorem number_out (h m s f b : Int) (d : Bool) (w : World) (ho : okB b d = true) (hi : inN h m s f b = false) :
    Calls Tryz.prog 176 #[.agg #[.int .i64 h, .int .i64 m, .int .i64 s, .int .i64 f, .int .i64 b, .bool d]] w fun e w' => e = .returned (.tuple #[.int .i64 0, .int .i64 2]) ∧ Gr w w' := by
  have HDY := Lib.hid (fun w => day_yes b d w ho)
  have HH := Lib.hid (fun w => within_any h 24 w)
  have HM := Lib.hid (fun w => within_any m 60 w)
  have HS := Lib.hid (fun w => within_any s 60 w)
  have HF := Lib.hid (fun w => within_any f b w)
  generalize dayN b d = D at *
  clear ho
  rcases inN_false hi with h1 | ⟨h1, h2⟩ | ⟨h1, h2, h3⟩ | ⟨h1, h2, h3, h4⟩
  all_goals
    clear hi
    (try rw [h1] at HH); (try rw [h2] at HM); (try rw [h3] at HS); (try rw [h4] at HF)
    go_enter Tryz.func176, Tryz.ntmps176
    go_wp2_with (first
      | (go_at_call 35; refine (HDY.out _).mono ?_; rintro e w' ⟨rfl, rfl⟩)
      | (go_at_call 211; with_reducible refine (HH.out _).mono ?_; rintro e w' ⟨rfl, rfl⟩)
      | (go_at_call 211; with_reducible refine (HM.out _).mono ?_; rintro e w' ⟨rfl, rfl⟩)
      | (go_at_call 211; with_reducible refine (HS.out _).mono ?_; rintro e w' ⟨rfl, rfl⟩)
      | (go_at_call 211; with_reducible refine (HF.out _).mono ?_; rintro e w' ⟨rfl, rfl⟩))
    simp [bodyPost, results, Tryz.results176, go_sem]
    exact (by repeat (first | refine Gr.setCell ?_ (by first | omega | (simp; done) | (simp; omega)) _ | refine Gr.alloc ?_ _ | refine Gr.drew ?_ | refine Gr.drewN ?_ _ | with_reducible assumption | with_reducible exact Gr.refl _ | refine Gr.trans ?_ (by with_reducible assumption)))
end Go.Proofs.YtgbiodnfpbhjiaaGreatDoor.C19
