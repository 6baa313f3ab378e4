
/-
  Contracts of the small functions of package timecode and of its reference: bases, dropped labels, days.
  Conditions: the arguments are integers of their kinds.
-/
import Derived.Test.YtgbiodnfpbhjiaaGreatDoorChecked
import Derived.Test.YtgbiodnfpbhjiaaGreatDoorMath19
import Derived.Test.YtgbiodnfpbhjiaaGreatDoorKit
import Derived.WalkKit
import Derived.WalkSpells
import Derived.WalkLawsBesides
namespace Go.Proofs.YtgbiodnfpbhjiaaGreatDoor.C19
open Go.RowKit
set_option linter.unusedSimpArgs false
set_option linter.unusedVariables false

def I64 (x : Int) : Prop := -9223372036854775808 ≤ x ∧ x ≤ 9223372036854775807

set_option maxHeartbeats 400000 in
theorem isBase_any (b : Int) (w : World) :
    Calls Tryz.prog 77 #[.int .i64 b] w fun e w' => e = .returned (.bool (isB b)) ∧ w = w' := by
  rcases (show b = 24 ∨ b = 25 ∨ b = 30 ∨ b = 48 ∨ b = 50 ∨ b = 60 ∨ (b ≠ 24 ∧ b ≠ 25 ∧ b ≠ 30 ∧ b ≠ 48 ∧ b ≠ 50 ∧ b ≠ 60) by omega) with rfl | rfl | rfl | rfl | rfl | rfl | ⟨c1, c2, c3, c4, c5, c6⟩
  case inr.inr.inr.inr.inr.inr =>
    have hb : isB b = false := decide_eq_false (by omega)
    rw [hb]
    have d1 : (b == 24) = false := by simpa using c1
    have d2 : (b == 25) = false := by simpa using c2
    have d3 : (b == 30) = false := by simpa using c3
    have d4 : (b == 48) = false := by simpa using c4
    have d5 : (b == 50) = false := by simpa using c5
    have d6 : (b == 60) = false := by simpa using c6
    clear c1 c2 c3 c4 c5 c6 hb
    go_enter Tryz.func77, Tryz.ntmps77
    go_wp2
    go_ret
    exact ⟨ret_bool rfl, rfl⟩
  all_goals
    go_enter Tryz.func77, Tryz.ntmps77
    go_wp2
    go_ret
    exact ⟨ret_bool (by decide), rfl⟩
set_option maxHeartbeats 400000 in
theorem known_any (b : Int) (w : World) :
    Calls Tryz.prog 82 #[.int .i64 b] w fun e w' => e = .returned (.bool (isB b)) ∧ w = w' := by
  rcases (show b = 24 ∨ b = 25 ∨ b = 30 ∨ b = 48 ∨ b = 50 ∨ b = 60 ∨ (b ≠ 24 ∧ b ≠ 25 ∧ b ≠ 30 ∧ b ≠ 48 ∧ b ≠ 50 ∧ b ≠ 60) by omega) with rfl | rfl | rfl | rfl | rfl | rfl | ⟨c1, c2, c3, c4, c5, c6⟩
  case inr.inr.inr.inr.inr.inr =>
    have hb : isB b = false := decide_eq_false (by omega)
    rw [hb]
    have d1 : (b == 24) = false := by simpa using c1
    have d2 : (b == 25) = false := by simpa using c2
    have d3 : (b == 30) = false := by simpa using c3
    have d4 : (b == 48) = false := by simpa using c4
    have d5 : (b == 50) = false := by simpa using c5
    have d6 : (b == 60) = false := by simpa using c6
    clear c1 c2 c3 c4 c5 c6 hb
    go_enter Tryz.func82, Tryz.ntmps82
    go_wp2
    go_ret
    exact ⟨ret_bool rfl, rfl⟩
  all_goals
    go_enter Tryz.func82, Tryz.ntmps82
    go_wp2
    go_ret
    exact ⟨ret_bool (by decide), rfl⟩

set_option maxHeartbeats 400000 in
theorem canDrop_any (b : Int) (w : World) :
    Calls Tryz.prog 78 #[.int .i64 b] w fun e w' => e = .returned (.bool (cdB b)) ∧ w = w' := by
  rcases (show b = 30 ∨ b = 60 ∨ (b ≠ 30 ∧ b ≠ 60) by omega) with rfl | rfl | ⟨c3, c6⟩
  case inr.inr =>
    have hb : cdB b = false := decide_eq_false (by omega)
    rw [hb]
    have d3 : (b == 30) = false := by simpa using c3
    have d6 : (b == 60) = false := by simpa using c6
    clear c3 c6 hb
    go_enter Tryz.func78, Tryz.ntmps78
    go_wp2
    go_ret
    exact ⟨ret_bool rfl, rfl⟩
  all_goals
    go_enter Tryz.func78, Tryz.ntmps78
    go_wp2
    go_ret
    exact ⟨ret_bool (by decide), rfl⟩

set_option maxHeartbeats 400000 in
theorem dropped_any (b : Int) (d : Bool) (w : World) (h0 : 0 ≤ b) (h1 : b ≤ 60) :
    Calls Tryz.prog 79 #[.int .i64 b, .bool d] w fun e w' => e = .returned (.int .i64 (drp b d)) ∧ w = w' := by
  cases d
  all_goals
    go_enter Tryz.func79, Tryz.ntmps79
    go_wp2
    go_ret
    exact ⟨ret_int (by simp [drp]), rfl⟩

set_option maxHeartbeats 400000 in
theorem rdropped_any (m b : Int) (d : Bool) (w : World) (h0 : 0 ≤ b) (h1 : b ≤ 60) (hm : 0 ≤ m) (hm1 : m ≤ 9223372036854775807) :
    Calls Tryz.prog 83 #[.int .i64 m, .int .i64 b, .bool d] w fun e w' => e = .returned (.int .i64 (dm m b d)) ∧ w = w' := by
  cases d
  · go_enter Tryz.func83, Tryz.ntmps83
    go_wp2
    go_ret
    exact ⟨ret_int (by simp [dm, drp]), rfl⟩
  · by_cases c : m % 10 = 0
    · have c' : (m % 10 != 0) = false := by simpa using c
      have HD : Hid (dm m b true = 0) := if_pos c
      clear c
      go_enter Tryz.func83, Tryz.ntmps83
      go_wp2
      go_ret
      exact ⟨ret_int HD.out.symm, rfl⟩
    · have c' : (m % 10 != 0) = true := by simpa using c
      have HD : Hid (dm m b true = b / 15) := if_neg c
      clear c
      go_enter Tryz.func83, Tryz.ntmps83
      go_wp2
      go_ret
      exact ⟨ret_int HD.out.symm, rfl⟩

theorem okB_false {b : Int} {d : Bool} (h : okB b d = false) : isB b = false ∨ (isB b = true ∧ d = true ∧ cdB b = false) := by
  unfold okB at h
  cases h1 : isB b <;> cases d <;> cases h2 : cdB b <;> simp_all
theorem okB_true {b : Int} {d : Bool} (h : okB b d = true) : isB b = true ∧ (d = false ∨ (d = true ∧ cdB b = true)) := by
  unfold okB at h
  cases h1 : isB b <;> cases d <;> cases h2 : cdB b <;> simp_all

set_option maxHeartbeats 400000 in
theorem day_no (b : Int) (d : Bool) (w : World) (h : okB b d = false) :
    Calls Tryz.prog 35 #[.int .i64 b, .bool d] w fun e w' => e = .returned (.tuple #[.int .i64 0, .int .i64 1]) ∧ w = w' := by
  rcases okB_false h with h1 | ⟨h1, rfl, h2⟩
  all_goals
    clear h
    go_enter Tryz.func35, Tryz.ntmps35
    go_wp2_with (first
      | (go_at_call 77; refine (isBase_any _ _).mono ?_; rintro e w' ⟨rfl, rfl⟩)
      | (go_at_call 78; refine (canDrop_any _ _).mono ?_; rintro e w' ⟨rfl, rfl⟩))
    go_ret2
    exact ⟨rfl, rfl⟩

set_option maxHeartbeats 400000 in
theorem day_yes (b : Int) (d : Bool) (w : World) (h : okB b d = true) :
    Calls Tryz.prog 35 #[.int .i64 b, .bool d] w fun e w' => e = .returned (.tuple #[.int .i64 (dayN b d), .int .i64 0]) ∧ w = w' := by
  obtain ⟨b1, b2, b3, b4⟩ := okB_bounds h
  have HD : Hid (dayN b d = 144 * (600 * b - 9 * drp b d)) := rfl
  obtain ⟨h1, h2⟩ := okB_true h
  rcases h2 with rfl | ⟨rfl, h2⟩
  all_goals
    clear h
    go_enter Tryz.func35, Tryz.ntmps35
    go_wp2_with (first
      | (go_at_call 77; refine (isBase_any _ _).mono ?_; rintro e w' ⟨rfl, rfl⟩)
      | (go_at_call 78; refine (canDrop_any _ _).mono ?_; rintro e w' ⟨rfl, rfl⟩)
      | (go_at_call 79; refine (dropped_any _ _ _ (by omega) (by omega)).mono ?_; rintro e w' ⟨rfl, rfl⟩))
    go_ret2
    exact ⟨by rw [HD.out]; rfl, rfl⟩

set_option maxHeartbeats 400000 in
theorem modulo_any (n m : Int) (w : World) (hn : I64 n) (h0 : 0 < m) (h1 : m ≤ 9223372036854775807) :
    Calls Tryz.prog 175 #[.int .i64 n, .int .i64 m] w fun e w' => e = .returned (.int .i64 (n % m)) ∧ w = w' := by
  obtain ⟨n1, n2⟩ := hn
  have p0 : 0 ≤ n % m := Int.emod_nonneg _ (by omega)
  have p1 : n % m < m := Int.emod_lt_of_pos _ h0
  have ht := tmod_pos_cases (n := n) h0
  rcases (show 0 ≤ n ∨ (n < 0 ∧ n % m = 0) ∨ (n < 0 ∧ 0 < n % m) by omega) with c | ⟨c, c'⟩ | ⟨c, c'⟩
  · clear ht
    go_enter Tryz.func175, Tryz.ntmps175
    go_wp2
    go_ret
    exact ⟨ret_int rfl, rfl⟩
  · have e := (ht c).1 c'
    have HR := Lib.hid c'
    clear ht c'
    go_enter Tryz.func175, Tryz.ntmps175
    go_wp2
    go_ret
    exact ⟨ret_int (by rw [HR.out]), rfl⟩
  · have e := (ht c).2 c'
    clear ht
    go_enter Tryz.func175, Tryz.ntmps175
    go_wp2
    go_ret
    exact ⟨ret_int (by omega), rfl⟩
end Go.Proofs.YtgbiodnfpbhjiaaGreatDoor.C19
