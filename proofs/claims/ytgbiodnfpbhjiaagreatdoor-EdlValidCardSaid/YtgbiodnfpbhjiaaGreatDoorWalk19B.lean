
/-
  Contracts of Day of the reference and of Label of package timecode and of its reference.
  Conditions: the arguments are integers of their kinds.
-/
import Derived.Test.YtgbiodnfpbhjiaaGreatDoorWalk19A
namespace Go.Proofs.YtgbiodnfpbhjiaaGreatDoor.C19
open Go.RowKit
set_option linter.unusedSimpArgs false
set_option linter.unusedVariables false

set_option maxHeartbeats 400000 in
theorem rday_no (b : Int) (d : Bool) (w : World) (h : okB b d = false) :
    Calls Tryz.prog 38 #[.int .i64 b, .bool d] w fun e w' => e = .returned (.tuple #[.int .i64 0, .int .i64 1]) ∧ w = w' := by
  rcases okB_false h with h1 | ⟨h1, rfl, h2⟩
  · clear h
    go_enter Tryz.func38, Tryz.ntmps38
    go_wp2_with (go_at_call 82; refine (known_any _ _).mono ?_; rintro e w' ⟨rfl, rfl⟩)
    go_ret2
    exact ⟨rfl, rfl⟩
  · have h3 : (b != 30) = true := by unfold cdB at h2; simp at h2 ⊢; omega
    have h4 : (b != 60) = true := by unfold cdB at h2; simp at h2 ⊢; omega
    clear h h2
    go_enter Tryz.func38, Tryz.ntmps38
    go_wp2_with (go_at_call 82; refine (known_any _ _).mono ?_; rintro e w' ⟨rfl, rfl⟩)
    go_ret2
    exact ⟨rfl, rfl⟩

theorem stN_bounds {b : Int} {d : Bool} {k : Nat} (h : okB b d = true) (hk : k ≤ 1440) : 0 ≤ stN b d k ∧ stN b d k ≤ dayN b d := by
  have h1 := stN_mono b d h 0 k
  have h2 := stN_mono b d h k (1440 - k)
  rw [show k + (1440 - k) = 1440 by omega, stN_day] at h2
  rw [Nat.zero_add] at h1
  exact ⟨h1, h2⟩

set_option maxRecDepth 100000 in
set_option maxHeartbeats 1000000 in
theorem rday_f (b : Int) (w : World) (h : okB b false = true) (hb : True) :
    Calls Tryz.prog 38 #[.int .i64 b, .bool false] w fun e w' => e = .returned (.tuple #[.int .i64 (dayN b false), .int .i64 0]) ∧ w = w' := by
  try subst hb
  obtain ⟨b1, b2, b3, b4⟩ := okB_bounds h
  obtain ⟨D, hD⟩ : ∃ D, dayN b false = D := ⟨_, rfl⟩
  have hDb := (dayN_pos h).2
  rw [hD] at hDb ⊢
  have HD : Hid (∀ j : Nat, ¬ j < 1440 → j ≤ 1440 → stN b false j = D) := (fun j h1 h2 => by rw [show j = 1440 by omega]; exact (stN_day b false).trans hD : ∀ j : Nat, ¬ j < 1440 → j ≤ 1440 → stN b false j = D)
  have HO := Lib.hid h
  obtain ⟨h1, h2⟩ := okB_true h
  have hD := Lib.hid hD
  clear h h2 b3 b4
  go_enter Tryz.func38, Tryz.ntmps38
  go_wp2_with (go_at_call 82; refine (known_any _ _).mono ?_; rintro e w' ⟨rfl, rfl⟩)
  go_loop [6, 7] (fun n m => ∃ k : Nat, k ≤ 1440 ∧ m = .int .i64 k ∧ n = .int .i64 (stN b false k)) (fun _ m => 1440 - (intOf m).toNat)
  case atStart => exact ⟨0, by omega, rfl, rfl⟩
  case round =>
    obtain ⟨k, hk, rfl, rfl⟩ := hrel
    by_cases hlt : k < 1440
    · obtain ⟨s, hs⟩ : ∃ s, stN b false k = s := ⟨_, rfl⟩
      obtain ⟨δ, hδ⟩ : ∃ δ, dm (k : Int) b false = δ := ⟨_, rfl⟩
      have sb := stN_bounds HO.out (show k ≤ 1440 by omega)
      have db := dm_bounds (m := (k : Int)) HO.out
      rw [hD.out] at sb
      rw [hs] at sb ⊢
      rw [hδ] at db
      have HS : Hid (stN b false (k + 1) = s + 60 * b - δ) := (by rw [← hs, ← hδ]; rfl : stN b false (k + 1) = s + 60 * b - δ)
      have HC : Hid (∀ w, Calls Tryz.prog 83 #[.int .i64 k, .int .i64 b, .bool false] w fun e w' => e = .returned (.int .i64 δ) ∧ w = w') := (fun w => by rw [← hδ]; exact rdropped_any (k : Int) b false w (by omega) (by omega) (by omega) (by omega) : ∀ w, Calls Tryz.prog 83 #[.int .i64 k, .int .i64 b, .bool false] w fun e w' => e = .returned (.int .i64 δ) ∧ w = w')
      obtain ⟨sb1, sb2⟩ := sb
      obtain ⟨db1, db2⟩ := db
      clear hs hδ
      go_wp2_with (go_at_call 83; refine (HC.out _).mono ?_; rintro e w' ⟨rfl, rfl⟩)
      go_round
      case rel => exact ⟨k + 1, by omega, by go_num, by rw [HS.out]; try rfl⟩
      case measure => simp [intOf]; omega
    · have hs : stN b false k = D := HD.out k hlt hk
      rw [hs]
      clear hs
      go_wp2
      go_ret2
      exact ⟨rfl, rfl⟩
set_option maxRecDepth 100000 in
set_option maxHeartbeats 1000000 in
theorem rday_30 (b : Int) (w : World) (h : okB b true = true) (hb : b=30) :
    Calls Tryz.prog 38 #[.int .i64 b, .bool true] w fun e w' => e = .returned (.tuple #[.int .i64 (dayN b true), .int .i64 0]) ∧ w = w' := by
  try subst hb
  obtain ⟨b1, b2, b3, b4⟩ := okB_bounds h
  obtain ⟨D, hD⟩ : ∃ D, dayN 30 true = D := ⟨_, rfl⟩
  have hDb := (dayN_pos h).2
  rw [hD] at hDb ⊢
  have HD : Hid (∀ j : Nat, ¬ j < 1440 → j ≤ 1440 → stN 30 true j = D) := (fun j h1 h2 => by rw [show j = 1440 by omega]; exact (stN_day 30 true).trans hD : ∀ j : Nat, ¬ j < 1440 → j ≤ 1440 → stN 30 true j = D)
  have HO := Lib.hid h
  obtain ⟨h1, h2⟩ := okB_true h
  have hD := Lib.hid hD
  clear h h2 b3 b4
  go_enter Tryz.func38, Tryz.ntmps38
  go_wp2_with (go_at_call 82; refine (known_any _ _).mono ?_; rintro e w' ⟨rfl, rfl⟩)
  go_loop [6, 7] (fun n m => ∃ k : Nat, k ≤ 1440 ∧ m = .int .i64 k ∧ n = .int .i64 (stN 30 true k)) (fun _ m => 1440 - (intOf m).toNat)
  case atStart => exact ⟨0, by omega, rfl, rfl⟩
  case round =>
    obtain ⟨k, hk, rfl, rfl⟩ := hrel
    by_cases hlt : k < 1440
    · obtain ⟨s, hs⟩ : ∃ s, stN 30 true k = s := ⟨_, rfl⟩
      obtain ⟨δ, hδ⟩ : ∃ δ, dm (k : Int) 30 true = δ := ⟨_, rfl⟩
      have sb := stN_bounds HO.out (show k ≤ 1440 by omega)
      have db := dm_bounds (m := (k : Int)) HO.out
      rw [hD.out] at sb
      rw [hs] at sb ⊢
      rw [hδ] at db
      have HS : Hid (stN 30 true (k + 1) = s + 60 * 30 - δ) := (by rw [← hs, ← hδ]; rfl : stN 30 true (k + 1) = s + 60 * 30 - δ)
      have HC : Hid (∀ w, Calls Tryz.prog 83 #[.int .i64 k, .int .i64 30, .bool true] w fun e w' => e = .returned (.int .i64 δ) ∧ w = w') := (fun w => by rw [← hδ]; exact rdropped_any (k : Int) 30 true w (by omega) (by omega) (by omega) (by omega) : ∀ w, Calls Tryz.prog 83 #[.int .i64 k, .int .i64 30, .bool true] w fun e w' => e = .returned (.int .i64 δ) ∧ w = w')
      obtain ⟨sb1, sb2⟩ := sb
      obtain ⟨db1, db2⟩ := db
      clear hs hδ
      go_wp2_with (go_at_call 83; refine (HC.out _).mono ?_; rintro e w' ⟨rfl, rfl⟩)
      go_round
      case rel => exact ⟨k + 1, by omega, by go_num, by rw [HS.out]; try rfl⟩
      case measure => simp [intOf]; omega
    · have hs : stN 30 true k = D := HD.out k hlt hk
      rw [hs]
      clear hs
      go_wp2
      go_ret2
      exact ⟨rfl, rfl⟩
set_option maxRecDepth 100000 in
set_option maxHeartbeats 1000000 in
theorem rday_60 (b : Int) (w : World) (h : okB b true = true) (hb : b=60) :
    Calls Tryz.prog 38 #[.int .i64 b, .bool true] w fun e w' => e = .returned (.tuple #[.int .i64 (dayN b true), .int .i64 0]) ∧ w = w' := by
  try subst hb
  obtain ⟨b1, b2, b3, b4⟩ := okB_bounds h
  obtain ⟨D, hD⟩ : ∃ D, dayN 60 true = D := ⟨_, rfl⟩
  have hDb := (dayN_pos h).2
  rw [hD] at hDb ⊢
  have HD : Hid (∀ j : Nat, ¬ j < 1440 → j ≤ 1440 → stN 60 true j = D) := (fun j h1 h2 => by rw [show j = 1440 by omega]; exact (stN_day 60 true).trans hD : ∀ j : Nat, ¬ j < 1440 → j ≤ 1440 → stN 60 true j = D)
  have HO := Lib.hid h
  obtain ⟨h1, h2⟩ := okB_true h
  have hD := Lib.hid hD
  clear h h2 b3 b4
  go_enter Tryz.func38, Tryz.ntmps38
  go_wp2_with (go_at_call 82; refine (known_any _ _).mono ?_; rintro e w' ⟨rfl, rfl⟩)
  go_loop [6, 7] (fun n m => ∃ k : Nat, k ≤ 1440 ∧ m = .int .i64 k ∧ n = .int .i64 (stN 60 true k)) (fun _ m => 1440 - (intOf m).toNat)
  case atStart => exact ⟨0, by omega, rfl, rfl⟩
  case round =>
    obtain ⟨k, hk, rfl, rfl⟩ := hrel
    by_cases hlt : k < 1440
    · obtain ⟨s, hs⟩ : ∃ s, stN 60 true k = s := ⟨_, rfl⟩
      obtain ⟨δ, hδ⟩ : ∃ δ, dm (k : Int) 60 true = δ := ⟨_, rfl⟩
      have sb := stN_bounds HO.out (show k ≤ 1440 by omega)
      have db := dm_bounds (m := (k : Int)) HO.out
      rw [hD.out] at sb
      rw [hs] at sb ⊢
      rw [hδ] at db
      have HS : Hid (stN 60 true (k + 1) = s + 60 * 60 - δ) := (by rw [← hs, ← hδ]; rfl : stN 60 true (k + 1) = s + 60 * 60 - δ)
      have HC : Hid (∀ w, Calls Tryz.prog 83 #[.int .i64 k, .int .i64 60, .bool true] w fun e w' => e = .returned (.int .i64 δ) ∧ w = w') := (fun w => by rw [← hδ]; exact rdropped_any (k : Int) 60 true w (by omega) (by omega) (by omega) (by omega) : ∀ w, Calls Tryz.prog 83 #[.int .i64 k, .int .i64 60, .bool true] w fun e w' => e = .returned (.int .i64 δ) ∧ w = w')
      obtain ⟨sb1, sb2⟩ := sb
      obtain ⟨db1, db2⟩ := db
      clear hs hδ
      go_wp2_with (go_at_call 83; refine (HC.out _).mono ?_; rintro e w' ⟨rfl, rfl⟩)
      go_round
      case rel => exact ⟨k + 1, by omega, by go_num, by rw [HS.out]; try rfl⟩
      case measure => simp [intOf]; omega
    · have hs : stN 60 true k = D := HD.out k hlt hk
      rw [hs]
      clear hs
      go_wp2
      go_ret2
      exact ⟨rfl, rfl⟩

theorem rday_yes (b : Int) (d : Bool) (w : World) (h : okB b d = true) :
    Calls Tryz.prog 38 #[.int .i64 b, .bool d] w fun e w' => e = .returned (.tuple #[.int .i64 (dayN b d), .int .i64 0]) ∧ w = w' := by
  cases d
  · exact rday_f b w h trivial
  · rcases okB_cases h with ⟨rfl, h2⟩ | ⟨rfl, h2⟩ | ⟨rfl, h2⟩ | ⟨rfl, h2⟩ | ⟨rfl, h2⟩ | ⟨rfl, h2⟩ | ⟨rfl, h2⟩ | ⟨rfl, h2⟩
    all_goals first
      | exact absurd h2 (by decide)
      | exact rday_30 _ w h rfl
      | exact rday_60 _ w h rfl

end Go.Proofs.YtgbiodnfpbhjiaaGreatDoor.C19
