/-
  Contracts: which events are valid behind a frame, of package edl and of the reference.
  Conditions: the day has at most 5184000 frames; the frame is not negative.
-/
import Derived.Test.YtgbiodnfpbhjiaaGreatDoorWalkEb
namespace Go.Proofs.YtgbiodnfpbhjiaaGreatDoor
open Go.RowKit Go.Lib
set_option linter.unusedSimpArgs false
set_option linter.unusedVariables false

theorem size_zero_iff (s : ByteArray) : s.toList.isEmpty = decide (s.size = 0) := by
  rw [ByteArray.toList_eq]
  obtain ⟨⟨l⟩⟩ := s
  cases l with
  | nil => rfl
  | cons a l =>
    have : ¬ (⟨⟨a :: l⟩⟩ : ByteArray).size = 0 := by show ¬ (l.length + 1 = 0); omega
    rw [decide_eq_false this]
    rfl

set_option maxHeartbeats 4000000 in
theorem vevent_core (k p fr i o f t least day : Int) (reel : ByteArray) (KB NB : Bool) (w : World) (hl : 0 ≤ least) (hd : day ≤ 5184000)
    (HK : ∀ w, Calls Tryz.prog 80 #[.agg #[.int .i64 k, .int .i64 p, .int .i64 fr, .string reel, .int .i64 i, .int .i64 o, .int .i64 f, .int .i64 t]] w fun en w' => en = .returned (.bool KB) ∧ Gr w w')
    (HN : ∀ w, Calls Tryz.prog 81 #[.string reel] w fun en w' => en = .returned (.bool NB) ∧ Gr w w') :
    Calls Tryz.prog 37 #[.agg #[.int .i64 k, .int .i64 p, .int .i64 fr, .string reel, .int .i64 i, .int .i64 o, .int .i64 f, .int .i64 t], .int .i64 least, .int .i64 day] w fun en w' => en = .returned (.bool (KB && decide (least ≤ f ∧ f < t ∧ t < day ∧ fr ≤ t - f) && (if reel.size = 0 then decide (i = 0 ∧ o = 0) else NB && decide (0 ≤ i ∧ i < day ∧ o = i + (t - f) ∧ o < day)))) ∧ Gr w w' := by
  have hnew := Cel.new w #[.int .i64 k, .int .i64 p, .int .i64 fr, .string reel, .int .i64 i, .int .i64 o, .int .i64 f, .int .i64 t] 30
  have HK := Lib.hid HK
  have HN := Lib.hid HN
  cases KB with
  | false =>
    rw [Bool.false_and, Bool.false_and]
    go_enter Tryz.func37, Tryz.ntmps37
    go_wp2_with (first | (go_at_call 80; (with_reducible refine (HK.out _).mono ?_); rintro e w1 ⟨rfl, hg1⟩; have k1 := hnew.gr hg1; have x1 := k1.lt; have z2 := (k1.2 2 _ rfl).1; have z3 := (k1.2 3 _ rfl).1; have z4 := (k1.2 4 _ rfl).1; have z5 := (k1.2 5 _ rfl).1; have z6 := (k1.2 6 _ rfl).1; have z7 := (k1.2 7 _ rfl).1))
    go_ret
    exact ⟨by rfl, (by repeat (first | with_reducible exact Gr.refl _ | with_reducible assumption | refine Gr.setCell ?_ (by first | omega | (simp; done) | (simp; omega)) _ | refine Gr.alloc ?_ _ | refine Gr.drew ?_ | refine Gr.drewN ?_ _ | refine Gr.trans ?_ (by with_reducible assumption)))⟩
  | true =>
    rw [Bool.true_and]
    by_cases c0 : f < least
    · rw [decide_eq_false (by omega : ¬ (least ≤ f ∧ f < t ∧ t < day ∧ fr ≤ t - f)), Bool.false_and]
      have q0 : decide (f < least) = true := decide_eq_true c0
      go_enter Tryz.func37, Tryz.ntmps37
      go_wp2_with (first | (go_at_call 80; (with_reducible refine (HK.out _).mono ?_); rintro e w1 ⟨rfl, hg1⟩; have k1 := hnew.gr hg1; have x1 := k1.lt; have z2 := (k1.2 2 _ rfl).1; have z3 := (k1.2 3 _ rfl).1; have z4 := (k1.2 4 _ rfl).1; have z5 := (k1.2 5 _ rfl).1; have z6 := (k1.2 6 _ rfl).1; have z7 := (k1.2 7 _ rfl).1))
      go_ret
      exact ⟨by rfl, (by repeat (first | with_reducible exact Gr.refl _ | with_reducible assumption | refine Gr.setCell ?_ (by first | omega | (simp; done) | (simp; omega)) _ | refine Gr.alloc ?_ _ | refine Gr.drew ?_ | refine Gr.drewN ?_ _ | refine Gr.trans ?_ (by with_reducible assumption)))⟩
    have q0 : decide (f < least) = false := decide_eq_false c0
    by_cases c1 : t ≤ f
    · rw [decide_eq_false (by omega : ¬ (least ≤ f ∧ f < t ∧ t < day ∧ fr ≤ t - f)), Bool.false_and]
      have q1 : decide (t ≤ f) = true := decide_eq_true c1
      go_enter Tryz.func37, Tryz.ntmps37
      go_wp2_with (first | (go_at_call 80; (with_reducible refine (HK.out _).mono ?_); rintro e w1 ⟨rfl, hg1⟩; have k1 := hnew.gr hg1; have x1 := k1.lt; have z2 := (k1.2 2 _ rfl).1; have z3 := (k1.2 3 _ rfl).1; have z4 := (k1.2 4 _ rfl).1; have z5 := (k1.2 5 _ rfl).1; have z6 := (k1.2 6 _ rfl).1; have z7 := (k1.2 7 _ rfl).1))
      go_ret
      exact ⟨by rfl, (by repeat (first | with_reducible exact Gr.refl _ | with_reducible assumption | refine Gr.setCell ?_ (by first | omega | (simp; done) | (simp; omega)) _ | refine Gr.alloc ?_ _ | refine Gr.drew ?_ | refine Gr.drewN ?_ _ | refine Gr.trans ?_ (by with_reducible assumption)))⟩
    have q1 : decide (t ≤ f) = false := decide_eq_false c1
    by_cases c2 : day ≤ t
    · rw [decide_eq_false (by omega : ¬ (least ≤ f ∧ f < t ∧ t < day ∧ fr ≤ t - f)), Bool.false_and]
      have q2 : decide (day ≤ t) = true := decide_eq_true c2
      go_enter Tryz.func37, Tryz.ntmps37
      go_wp2_with (first | (go_at_call 80; (with_reducible refine (HK.out _).mono ?_); rintro e w1 ⟨rfl, hg1⟩; have k1 := hnew.gr hg1; have x1 := k1.lt; have z2 := (k1.2 2 _ rfl).1; have z3 := (k1.2 3 _ rfl).1; have z4 := (k1.2 4 _ rfl).1; have z5 := (k1.2 5 _ rfl).1; have z6 := (k1.2 6 _ rfl).1; have z7 := (k1.2 7 _ rfl).1))
      go_ret
      exact ⟨by rfl, (by repeat (first | with_reducible exact Gr.refl _ | with_reducible assumption | refine Gr.setCell ?_ (by first | omega | (simp; done) | (simp; omega)) _ | refine Gr.alloc ?_ _ | refine Gr.drew ?_ | refine Gr.drewN ?_ _ | refine Gr.trans ?_ (by with_reducible assumption)))⟩
    have q2 : decide (day ≤ t) = false := decide_eq_false c2
    by_cases c3 : t - f < fr
    · rw [decide_eq_false (by omega : ¬ (least ≤ f ∧ f < t ∧ t < day ∧ fr ≤ t - f)), Bool.false_and]
      have q3 : decide (t - f < fr) = true := decide_eq_true c3
      go_enter Tryz.func37, Tryz.ntmps37
      go_wp2_with (first | (go_at_call 80; (with_reducible refine (HK.out _).mono ?_); rintro e w1 ⟨rfl, hg1⟩; have k1 := hnew.gr hg1; have x1 := k1.lt; have z2 := (k1.2 2 _ rfl).1; have z3 := (k1.2 3 _ rfl).1; have z4 := (k1.2 4 _ rfl).1; have z5 := (k1.2 5 _ rfl).1; have z6 := (k1.2 6 _ rfl).1; have z7 := (k1.2 7 _ rfl).1))
      go_ret
      exact ⟨by rfl, (by repeat (first | with_reducible exact Gr.refl _ | with_reducible assumption | refine Gr.setCell ?_ (by first | omega | (simp; done) | (simp; omega)) _ | refine Gr.alloc ?_ _ | refine Gr.drew ?_ | refine Gr.drewN ?_ _ | refine Gr.trans ?_ (by with_reducible assumption)))⟩
    have q3 : decide (t - f < fr) = false := decide_eq_false c3
    rw [decide_eq_true (by omega : least ≤ f ∧ f < t ∧ t < day ∧ fr ≤ t - f), Bool.true_and]
    by_cases hr : reel.size = 0
    · rw [if_pos hr]
      have hr2 : reel.toList.isEmpty = true := by rw [size_zero_iff]; exact decide_eq_true hr
      by_cases d0 : i = 0
      · have g0 : (i == 0) = true := by simp [d0]
        replace d0 : Hid (i = 0) := d0
        by_cases d1 : o = 0
        · have g1 : (o == 0) = true := by simp [d1]
          replace d1 : Hid (o = 0) := d1
          go_enter Tryz.func37, Tryz.ntmps37
          go_wp2_with (first | (go_at_call 80; (with_reducible refine (HK.out _).mono ?_); rintro e w1 ⟨rfl, hg1⟩; have k1 := hnew.gr hg1; have x1 := k1.lt; have z2 := (k1.2 2 _ rfl).1; have z3 := (k1.2 3 _ rfl).1; have z4 := (k1.2 4 _ rfl).1; have z5 := (k1.2 5 _ rfl).1; have z6 := (k1.2 6 _ rfl).1; have z7 := (k1.2 7 _ rfl).1))
          go_ret
          exact ⟨by simp [d0.out, d1.out], (by repeat (first | with_reducible exact Gr.refl _ | with_reducible assumption | refine Gr.setCell ?_ (by first | omega | (simp; done) | (simp; omega)) _ | refine Gr.alloc ?_ _ | refine Gr.drew ?_ | refine Gr.drewN ?_ _ | refine Gr.trans ?_ (by with_reducible assumption)))⟩
        · have g1 : (o == 0) = false := by simp [d1]
          go_enter Tryz.func37, Tryz.ntmps37
          go_wp2_with (first | (go_at_call 80; (with_reducible refine (HK.out _).mono ?_); rintro e w1 ⟨rfl, hg1⟩; have k1 := hnew.gr hg1; have x1 := k1.lt; have z2 := (k1.2 2 _ rfl).1; have z3 := (k1.2 3 _ rfl).1; have z4 := (k1.2 4 _ rfl).1; have z5 := (k1.2 5 _ rfl).1; have z6 := (k1.2 6 _ rfl).1; have z7 := (k1.2 7 _ rfl).1))
          go_ret
          exact ⟨by simp [d0.out, d1], (by repeat (first | with_reducible exact Gr.refl _ | with_reducible assumption | refine Gr.setCell ?_ (by first | omega | (simp; done) | (simp; omega)) _ | refine Gr.alloc ?_ _ | refine Gr.drew ?_ | refine Gr.drewN ?_ _ | refine Gr.trans ?_ (by with_reducible assumption)))⟩
      · have g0 : (i == 0) = false := by simp [d0]
        go_enter Tryz.func37, Tryz.ntmps37
        go_wp2_with (first | (go_at_call 80; (with_reducible refine (HK.out _).mono ?_); rintro e w1 ⟨rfl, hg1⟩; have k1 := hnew.gr hg1; have x1 := k1.lt; have z2 := (k1.2 2 _ rfl).1; have z3 := (k1.2 3 _ rfl).1; have z4 := (k1.2 4 _ rfl).1; have z5 := (k1.2 5 _ rfl).1; have z6 := (k1.2 6 _ rfl).1; have z7 := (k1.2 7 _ rfl).1))
        go_ret
        exact ⟨by simp [d0], (by repeat (first | with_reducible exact Gr.refl _ | with_reducible assumption | refine Gr.setCell ?_ (by first | omega | (simp; done) | (simp; omega)) _ | refine Gr.alloc ?_ _ | refine Gr.drew ?_ | refine Gr.drewN ?_ _ | refine Gr.trans ?_ (by with_reducible assumption)))⟩
    · rw [if_neg hr]
      have hr2 : reel.toList.isEmpty = false := by rw [size_zero_iff]; exact decide_eq_false hr
      cases NB with
      | false =>
        rw [Bool.false_and]
        go_enter Tryz.func37, Tryz.ntmps37
        go_wp2_with (first | (go_at_call 80; (with_reducible refine (HK.out _).mono ?_); rintro e w1 ⟨rfl, hg1⟩; have k1 := hnew.gr hg1; have x1 := k1.lt; have z2 := (k1.2 2 _ rfl).1; have z3 := (k1.2 3 _ rfl).1; have z4 := (k1.2 4 _ rfl).1; have z5 := (k1.2 5 _ rfl).1; have z6 := (k1.2 6 _ rfl).1; have z7 := (k1.2 7 _ rfl).1) | (go_at_call 81; (with_reducible refine (HN.out _).mono ?_); rintro e w2 ⟨rfl, hg2⟩; have k2 := k1.gr hg2; have x2 := k2.lt; have y2 := (k2.2 2 _ rfl).1; have y3 := (k2.2 3 _ rfl).1; have y4 := (k2.2 4 _ rfl).1; have y5 := (k2.2 5 _ rfl).1; have y6 := (k2.2 6 _ rfl).1; have y7 := (k2.2 7 _ rfl).1))
        go_ret
        exact ⟨by rfl, (by repeat (first | with_reducible exact Gr.refl _ | with_reducible assumption | refine Gr.setCell ?_ (by first | omega | (simp; done) | (simp; omega)) _ | refine Gr.alloc ?_ _ | refine Gr.drew ?_ | refine Gr.drewN ?_ _ | refine Gr.trans ?_ (by with_reducible assumption)))⟩
      | true =>
        rw [Bool.true_and]
        by_cases d0 : 0 ≤ i
        case neg =>
          have g0 : decide (0 ≤ i) = false := decide_eq_false d0
          rw [decide_eq_false (by omega : ¬ (0 ≤ i ∧ i < day ∧ o = i + (t - f) ∧ o < day))]
          go_enter Tryz.func37, Tryz.ntmps37
          go_wp2_with (first | (go_at_call 80; (with_reducible refine (HK.out _).mono ?_); rintro e w1 ⟨rfl, hg1⟩; have k1 := hnew.gr hg1; have x1 := k1.lt; have z2 := (k1.2 2 _ rfl).1; have z3 := (k1.2 3 _ rfl).1; have z4 := (k1.2 4 _ rfl).1; have z5 := (k1.2 5 _ rfl).1; have z6 := (k1.2 6 _ rfl).1; have z7 := (k1.2 7 _ rfl).1) | (go_at_call 81; (with_reducible refine (HN.out _).mono ?_); rintro e w2 ⟨rfl, hg2⟩; have k2 := k1.gr hg2; have x2 := k2.lt; have y2 := (k2.2 2 _ rfl).1; have y3 := (k2.2 3 _ rfl).1; have y4 := (k2.2 4 _ rfl).1; have y5 := (k2.2 5 _ rfl).1; have y6 := (k2.2 6 _ rfl).1; have y7 := (k2.2 7 _ rfl).1))
          go_ret
          exact ⟨by simp [d0], (by repeat (first | with_reducible exact Gr.refl _ | with_reducible assumption | refine Gr.setCell ?_ (by first | omega | (simp; done) | (simp; omega)) _ | refine Gr.alloc ?_ _ | refine Gr.drew ?_ | refine Gr.drewN ?_ _ | refine Gr.trans ?_ (by with_reducible assumption)))⟩
        case pos =>
          have g0 : decide (0 ≤ i) = true := decide_eq_true d0
          by_cases d1 : i < day
          case neg =>
            have g1 : decide (i < day) = false := decide_eq_false d1
            rw [decide_eq_false (by omega : ¬ (0 ≤ i ∧ i < day ∧ o = i + (t - f) ∧ o < day))]
            go_enter Tryz.func37, Tryz.ntmps37
            go_wp2_with (first | (go_at_call 80; (with_reducible refine (HK.out _).mono ?_); rintro e w1 ⟨rfl, hg1⟩; have k1 := hnew.gr hg1; have x1 := k1.lt; have z2 := (k1.2 2 _ rfl).1; have z3 := (k1.2 3 _ rfl).1; have z4 := (k1.2 4 _ rfl).1; have z5 := (k1.2 5 _ rfl).1; have z6 := (k1.2 6 _ rfl).1; have z7 := (k1.2 7 _ rfl).1) | (go_at_call 81; (with_reducible refine (HN.out _).mono ?_); rintro e w2 ⟨rfl, hg2⟩; have k2 := k1.gr hg2; have x2 := k2.lt; have y2 := (k2.2 2 _ rfl).1; have y3 := (k2.2 3 _ rfl).1; have y4 := (k2.2 4 _ rfl).1; have y5 := (k2.2 5 _ rfl).1; have y6 := (k2.2 6 _ rfl).1; have y7 := (k2.2 7 _ rfl).1))
            go_ret
            exact ⟨by simp [d1], (by repeat (first | with_reducible exact Gr.refl _ | with_reducible assumption | refine Gr.setCell ?_ (by first | omega | (simp; done) | (simp; omega)) _ | refine Gr.alloc ?_ _ | refine Gr.drew ?_ | refine Gr.drewN ?_ _ | refine Gr.trans ?_ (by with_reducible assumption)))⟩
          case pos =>
            have g1 : decide (i < day) = true := decide_eq_true d1
            by_cases d2 : o = i + (t - f)
            case neg =>
              have g2 : (o == i + (t - f)) = false := by simp [d2]
              rw [decide_eq_false (by omega : ¬ (0 ≤ i ∧ i < day ∧ o = i + (t - f) ∧ o < day))]
              go_enter Tryz.func37, Tryz.ntmps37
              go_wp2_with (first | (go_at_call 80; (with_reducible refine (HK.out _).mono ?_); rintro e w1 ⟨rfl, hg1⟩; have k1 := hnew.gr hg1; have x1 := k1.lt; have z2 := (k1.2 2 _ rfl).1; have z3 := (k1.2 3 _ rfl).1; have z4 := (k1.2 4 _ rfl).1; have z5 := (k1.2 5 _ rfl).1; have z6 := (k1.2 6 _ rfl).1; have z7 := (k1.2 7 _ rfl).1) | (go_at_call 81; (with_reducible refine (HN.out _).mono ?_); rintro e w2 ⟨rfl, hg2⟩; have k2 := k1.gr hg2; have x2 := k2.lt; have y2 := (k2.2 2 _ rfl).1; have y3 := (k2.2 3 _ rfl).1; have y4 := (k2.2 4 _ rfl).1; have y5 := (k2.2 5 _ rfl).1; have y6 := (k2.2 6 _ rfl).1; have y7 := (k2.2 7 _ rfl).1))
              go_ret
              exact ⟨by simp [d2], (by repeat (first | with_reducible exact Gr.refl _ | with_reducible assumption | refine Gr.setCell ?_ (by first | omega | (simp; done) | (simp; omega)) _ | refine Gr.alloc ?_ _ | refine Gr.drew ?_ | refine Gr.drewN ?_ _ | refine Gr.trans ?_ (by with_reducible assumption)))⟩
            case pos =>
              have g2 : (o == i + (t - f)) = true := by rw [d2]; simp
              replace d2 : Hid (o = i + (t - f)) := d2
              by_cases d3 : o < day
              case neg =>
                have g3 : decide (o < day) = false := decide_eq_false d3
                rw [decide_eq_false (by have := d2.out; omega : ¬ (0 ≤ i ∧ i < day ∧ o = i + (t - f) ∧ o < day))]
                go_enter Tryz.func37, Tryz.ntmps37
                go_wp2_with (first | (go_at_call 80; (with_reducible refine (HK.out _).mono ?_); rintro e w1 ⟨rfl, hg1⟩; have k1 := hnew.gr hg1; have x1 := k1.lt; have z2 := (k1.2 2 _ rfl).1; have z3 := (k1.2 3 _ rfl).1; have z4 := (k1.2 4 _ rfl).1; have z5 := (k1.2 5 _ rfl).1; have z6 := (k1.2 6 _ rfl).1; have z7 := (k1.2 7 _ rfl).1) | (go_at_call 81; (with_reducible refine (HN.out _).mono ?_); rintro e w2 ⟨rfl, hg2⟩; have k2 := k1.gr hg2; have x2 := k2.lt; have y2 := (k2.2 2 _ rfl).1; have y3 := (k2.2 3 _ rfl).1; have y4 := (k2.2 4 _ rfl).1; have y5 := (k2.2 5 _ rfl).1; have y6 := (k2.2 6 _ rfl).1; have y7 := (k2.2 7 _ rfl).1))
                go_ret
                exact ⟨by simp [d3], (by repeat (first | with_reducible exact Gr.refl _ | with_reducible assumption | refine Gr.setCell ?_ (by first | omega | (simp; done) | (simp; omega)) _ | refine Gr.alloc ?_ _ | refine Gr.drew ?_ | refine Gr.drewN ?_ _ | refine Gr.trans ?_ (by with_reducible assumption)))⟩
              case pos =>
                have g3 : decide (o < day) = true := decide_eq_true d3
                rw [decide_eq_true (by have := d2.out; omega : 0 ≤ i ∧ i < day ∧ o = i + (t - f) ∧ o < day)]
                go_enter Tryz.func37, Tryz.ntmps37
                go_wp2_with (first | (go_at_call 80; (with_reducible refine (HK.out _).mono ?_); rintro e w1 ⟨rfl, hg1⟩; have k1 := hnew.gr hg1; have x1 := k1.lt; have z2 := (k1.2 2 _ rfl).1; have z3 := (k1.2 3 _ rfl).1; have z4 := (k1.2 4 _ rfl).1; have z5 := (k1.2 5 _ rfl).1; have z6 := (k1.2 6 _ rfl).1; have z7 := (k1.2 7 _ rfl).1) | (go_at_call 81; (with_reducible refine (HN.out _).mono ?_); rintro e w2 ⟨rfl, hg2⟩; have k2 := k1.gr hg2; have x2 := k2.lt; have y2 := (k2.2 2 _ rfl).1; have y3 := (k2.2 3 _ rfl).1; have y4 := (k2.2 4 _ rfl).1; have y5 := (k2.2 5 _ rfl).1; have y6 := (k2.2 6 _ rfl).1; have y7 := (k2.2 7 _ rfl).1))
                go_ret
                exact ⟨by simp [d3], (by repeat (first | with_reducible exact Gr.refl _ | with_reducible assumption | refine Gr.setCell ?_ (by first | omega | (simp; done) | (simp; omega)) _ | refine Gr.alloc ?_ _ | refine Gr.drew ?_ | refine Gr.drewN ?_ _ | refine Gr.trans ?_ (by with_reducible assumption)))⟩
theorem vevent_any (e : Ev) (least day : Int) (w : World) (hl : 0 ≤ least) (hd : day ≤ 5184000) (hs : e.reel.size ≤ 140737488355328) :
    Calls Tryz.prog 37 #[e.val, .int .i64 least, .int .i64 day] w fun en w' => en = .returned (.bool (vEv e least day)) ∧ Gr w w' :=
  vevent_core e.k e.p e.fr e.i e.o e.f e.t least day e.reel (vKd e) (nmB e.reel) w hl hd (fun w => vkind_any e w) (fun w => validName_any e.reel w hs)
end Go.Proofs.YtgbiodnfpbhjiaaGreatDoor
