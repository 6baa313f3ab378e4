/-
  Contracts of Valid and Of of package rational and of its reference.
  Conditions: the arguments are integers of their kinds.
-/
import Derived.Test.YtclfiaemjdflbaaDoorWalkA
import Derived.Test.YtclfiaemjdflbaaDoorMathG
import Derived.Test.YtclfiaemjdflbaaDoorKit2
namespace Go.Proofs.YtclfiaemjdflbaaDoor
open Go.RowKit
set_option linter.unusedSimpArgs false
set_option linter.unusedVariables false

/-- an int64 -/
def I64 (x : Int) : Prop := -9223372036854775808 ≤ x ∧ x ≤ 9223372036854775807

set_option maxHeartbeats 1000000 in
theorem valid_any (n d : Int) (w : World) (hn : I64 n) (hd : I64 d) :
    Calls Tryd.prog 17 #[.agg #[.int .i64 n, .int .i64 d]] w fun e w' => e = .returned (.bool (vB n d)) ∧ Gr w w' := by
  obtain ⟨n1, n2⟩ := hn
  obtain ⟨d1, d2⟩ := hd
  by_cases c1 : 1 ≤ d
  · by_cases c2 : -9223372036854775808 < n
    · have c2' : -9223372036854775807 ≤ n := by omega
      have b1 := mg_nonneg n
      have b2 := mg_lt n n1 n2
      by_cases c3 : gc n d = 1
      all_goals
        first | rw [vB_true c1 c2 c3] | rw [vB_gc c3]
        first
          | have H : (gc (mg n) d == 1) = true := by rw [gc_mg]; simpa using c3
          | have H : (gc (mg n) d == 1) = false := by rw [gc_mg]; simpa using c3
        clear c3
        go_enter Tryd.func17, Tryd.ntmps17
        go_wp2
        go_quiet ((first
          | (go_at_call 32; exact quiet_left (magnitude_any n _ (by omega) (by omega)))
          | (go_at_call 33; exact Calls.quiet_of (gcd_any _ _ _ (by omega) (by omega) (by omega) (by omega)))))
        go_wp2
        go_ret
        exact ⟨ret_bool rfl, (by repeat (first | refine Gr.setCell ?_ (by first | omega | (simp; done) | (simp; omega)) _ | refine Gr.alloc ?_ _ | refine Gr.drew ?_ | refine Gr.drewN ?_ _ | with_reducible assumption | with_reducible exact Gr.refl _ | refine Gr.trans ?_ (by with_reducible assumption)))⟩
    · rw [vB_num c2]
      have hd : decide (-9223372036854775808 < n) = false := decide_eq_false c2
      have hd' : decide (-9223372036854775807 ≤ n) = false := decide_eq_false (by omega)
      clear c2
      go_enter Tryd.func17, Tryd.ntmps17
      go_wp2
      go_quiet (fail)
      go_wp2
      go_ret
      exact ⟨ret_bool rfl, (by repeat (first | refine Gr.setCell ?_ (by first | omega | (simp; done) | (simp; omega)) _ | refine Gr.alloc ?_ _ | refine Gr.drew ?_ | refine Gr.drewN ?_ _ | with_reducible assumption | with_reducible exact Gr.refl _ | refine Gr.trans ?_ (by with_reducible assumption)))⟩
  · rw [vB_den c1]
    have hd : decide (1 ≤ d) = false := decide_eq_false c1
    clear c1
    go_enter Tryd.func17, Tryd.ntmps17
    go_wp2
    go_quiet (fail)
    go_wp2
    go_ret
    exact ⟨ret_bool rfl, (by repeat (first | refine Gr.setCell ?_ (by first | omega | (simp; done) | (simp; omega)) _ | refine Gr.alloc ?_ _ | refine Gr.drew ?_ | refine Gr.drewN ?_ _ | with_reducible assumption | with_reducible exact Gr.refl _ | refine Gr.trans ?_ (by with_reducible assumption)))⟩
set_option maxHeartbeats 1000000 in
theorem rvalid_any (n d : Int) (w : World) (hn : I64 n) (hd : I64 d) :
    Calls Tryd.prog 14 #[.agg #[.int .i64 n, .int .i64 d]] w fun e w' => e = .returned (.bool (vB n d)) ∧ Gr w w' := by
  obtain ⟨n1, n2⟩ := hn
  obtain ⟨d1, d2⟩ := hd
  by_cases c1 : 1 ≤ d
  · by_cases c2 : -9223372036854775808 < n
    · have c2' : -9223372036854775807 ≤ n := by omega
      have b1 := mg_nonneg n
      have b2 := mg_lt n n1 n2
      by_cases c3 : gc n d = 1
      all_goals
        first | rw [vB_true c1 c2 c3] | rw [vB_gc c3]
        first
          | have H : (gc (mg n) d == 1) = true := by rw [gc_mg]; simpa using c3
          | have H : (gc (mg n) d == 1) = false := by rw [gc_mg]; simpa using c3
        clear c3
        go_enter Tryd.func14, Tryd.ntmps14
        go_wp2
        go_quiet ((first
          | (go_at_call 23; exact quiet_left (mag_any n _ (by omega) (by omega)))
          | (go_at_call 30; exact Calls.quiet_of (rgcd_any _ _ _ (by omega) (by omega) (by omega) (by omega)))))
        go_wp2
        go_ret
        exact ⟨ret_bool rfl, (by repeat (first | refine Gr.setCell ?_ (by first | omega | (simp; done) | (simp; omega)) _ | refine Gr.alloc ?_ _ | refine Gr.drew ?_ | refine Gr.drewN ?_ _ | with_reducible assumption | with_reducible exact Gr.refl _ | refine Gr.trans ?_ (by with_reducible assumption)))⟩
    · rw [vB_num c2]
      have hd : decide (-9223372036854775808 < n) = false := decide_eq_false c2
      have hd' : decide (-9223372036854775807 ≤ n) = false := decide_eq_false (by omega)
      clear c2
      go_enter Tryd.func14, Tryd.ntmps14
      go_wp2
      go_quiet (fail)
      go_wp2
      go_ret
      exact ⟨ret_bool rfl, (by repeat (first | refine Gr.setCell ?_ (by first | omega | (simp; done) | (simp; omega)) _ | refine Gr.alloc ?_ _ | refine Gr.drew ?_ | refine Gr.drewN ?_ _ | with_reducible assumption | with_reducible exact Gr.refl _ | refine Gr.trans ?_ (by with_reducible assumption)))⟩
  · rw [vB_den c1]
    have hd : decide (1 ≤ d) = false := decide_eq_false c1
    clear c1
    go_enter Tryd.func14, Tryd.ntmps14
    go_wp2
    go_quiet (fail)
    go_wp2
    go_ret
    exact ⟨ret_bool rfl, (by repeat (first | refine Gr.setCell ?_ (by first | omega | (simp; done) | (simp; omega)) _ | refine Gr.alloc ?_ _ | refine Gr.drew ?_ | refine Gr.drewN ?_ _ | with_reducible assumption | with_reducible exact Gr.refl _ | refine Gr.trans ?_ (by with_reducible assumption)))⟩

theorem rF_true {n d : Int} (h : mg n / gc n d ≤ 9223372036854775807) (h' : d / gc n d ≤ 9223372036854775807) : rF n d = true := decide_eq_true ⟨h, h'⟩
theorem rF_false {n d : Int} (h : ¬ (mg n / gc n d ≤ 9223372036854775807 ∧ d / gc n d ≤ 9223372036854775807)) : rF n d = false := decide_eq_false h

theorem gc_neg_neg (n d : Int) : gc (-n) (-d) = gc n d := by unfold gc; simp
theorem mg_opp (n : Int) : mg (-n) = mg n := by unfold mg; split <;> split <;> omega
theorem quot_neg {n d : Int} (h : n < 0) : n / gc n d = -(mg n / gc n d) := by
  rw [mg_neg h]
  obtain ⟨k, hk⟩ := gc_dvd_left n d
  generalize gc n d = g at *
  subst hk
  by_cases hg : g = 0
  · subst hg; simp at h
  · rw [← Int.mul_neg, Int.mul_ediv_cancel_left _ hg, Int.mul_ediv_cancel_left _ hg]; omega
theorem of_facts {n d g : Int} (h : d ≠ 0) (hg : gc (mg n) (mg d) = g) :
    (mg n / g ≤ 9223372036854775807 → mg d / g ≤ 9223372036854775807 → (((n < 0) ↔ (d < 0)) → oN n d = mg n / g) ∧ (¬ ((n < 0) ↔ (d < 0)) → oN n d = -(mg n / g)) ∧ oD n d = mg d / g ∧ oE n d = 0) ∧
    (¬ (mg n / g ≤ 9223372036854775807 ∧ mg d / g ≤ 9223372036854775807) → oN n d = 0 ∧ oD n d = 0 ∧ oE n d = 2) := by
  have hg' : gc n d = g := by rw [← hg, gc_mg, gc_mg_right]
  unfold oN oD oE
  rw [if_neg h, if_neg h, if_neg h]
  by_cases hd : d < 0
  · rw [if_pos hd, if_pos hd, if_pos hd]
    have e : rF (-n) (-d) = decide (mg n / g ≤ 9223372036854775807 ∧ mg d / g ≤ 9223372036854775807) := by
      unfold rF; rw [gc_neg_neg, hg', mg_opp, mg_neg hd]
    unfold rN rD rE
    rw [e, gc_neg_neg, hg', mg_neg hd]
    refine ⟨fun a b => ?_, fun a => ?_⟩
    · rw [if_pos (by simp; exact ⟨a, b⟩), if_pos (by simp; exact ⟨a, b⟩), if_pos (by simp; exact ⟨a, b⟩)]
      refine ⟨fun c => ?_, fun c => ?_, rfl, rfl⟩
      · rw [mg_neg (c.2 hd)]
      · have hn : ¬ n < 0 := fun x => c ⟨fun _ => hd, fun _ => x⟩
        rw [mg_pos (by omega)]
        rcases Int.lt_or_eq_of_le (show 0 ≤ n by omega) with hp | hp
        · have := quot_neg (n := -n) (d := d) (by omega)
          rw [show gc (-n) d = g by rw [← hg', ← gc_mg (-n), mg_opp, gc_mg], mg_opp, mg_pos (show 0 ≤ n by omega)] at this
          exact this
        · rw [← hp]; simp
    · rw [if_neg (by simpa using a), if_neg (by simpa using a), if_neg (by simpa using a)]
      exact ⟨rfl, rfl, rfl⟩
  · rw [if_neg hd, if_neg hd, if_neg hd]
    have e : rF n d = decide (mg n / g ≤ 9223372036854775807 ∧ mg d / g ≤ 9223372036854775807) := by
      unfold rF; rw [hg', mg_pos (show 0 ≤ d by omega)]
    unfold rN rD rE
    rw [e, hg', mg_pos (show 0 ≤ d by omega)]
    refine ⟨fun a b => ?_, fun a => ?_⟩
    · rw [if_pos (by simp; exact ⟨a, b⟩), if_pos (by simp; exact ⟨a, b⟩), if_pos (by simp; exact ⟨a, b⟩)]
      refine ⟨fun c => ?_, fun c => ?_, rfl, rfl⟩
      · rw [mg_pos (show 0 ≤ n by omega)]
      · have := quot_neg (n := n) (d := d) (by omega)
        rw [hg'] at this
        exact this
    · rw [if_neg (by simpa using a), if_neg (by simpa using a), if_neg (by simpa using a)]
      exact ⟨rfl, rfl, rfl⟩
theorem ret_of {a b c a' b' c' : Int} (h1 : a = a') (h2 : b = b') (h3 : c = c') : Ending.returned (.tuple #[.agg #[.int .i64 a, .int .i64 b], .int .i64 c]) = .returned (.tuple #[.agg #[.int .i64 a', .int .i64 b'], .int .i64 c']) := by rw [h1, h2, h3]

set_option maxHeartbeats 1000000 in
theorem of_any (n d : Int) (w : World) (hn : I64 n) (hd : I64 d) :
    Calls Tryd.prog 16 #[.int .i64 n, .int .i64 d] w fun e w' => e = .returned (.tuple #[.agg #[.int .i64 (oN n d), .int .i64 (oD n d)], .int .i64 (oE n d)]) ∧ Gr w w' := by
  obtain ⟨n1, n2⟩ := hn
  obtain ⟨d1, d2⟩ := hd
  by_cases c0 : d = 0
  · subst c0
    go_enter Tryd.func16, Tryd.ntmps16
    go_wp2
    simp [bodyPost, results, Tryd.results16, go_sem]
    exact ⟨by simp [oN, oD, oE], (by repeat (first | refine Gr.setCell ?_ (by first | omega | (simp; done) | (simp; omega)) _ | refine Gr.alloc ?_ _ | refine Gr.drew ?_ | refine Gr.drewN ?_ _ | with_reducible assumption | with_reducible exact Gr.refl _ | refine Gr.trans ?_ (by with_reducible assumption)))⟩
  · have c1 : (d == 0) = false := by simpa using c0
    have b1 := mg_nonneg n
    have b2 := mg_lt n n1 n2
    have b3 := mg_nonneg d
    have b4 := mg_lt d d1 d2
    have hmd : 0 < mg d := by unfold mg; split <;> omega
    obtain ⟨g, hg⟩ : ∃ g, gc (mg n) (mg d) = g := ⟨_, rfl⟩
    have hg0 : 0 < g := by rw [← hg]; exact gc_pos_right _ _ hmd
    have hgl : g ≤ mg d := by rw [← hg]; exact gc_le_right _ _ hmd
    obtain ⟨f1, f2⟩ := of_facts (n := n) c0 hg
    have HG := Lib.hid (fun w => hg ▸ gcd_any (mg n) (mg d) w (by omega) (by omega) (by omega) (by omega))
    have p1 : 0 ≤ mg n / g := Int.ediv_nonneg b1 (by omega)
    have p2 : mg n / g ≤ mg n := Int.ediv_le_self _ b1
    have p3 : 0 ≤ mg d / g := Int.ediv_nonneg b3 (by omega)
    have p4 : mg d / g ≤ mg d := Int.ediv_le_self _ b3
    clear hg
    have HN : Hid (oN n d = if mg n / g ≤ 9223372036854775807 ∧ mg d / g ≤ 9223372036854775807 then (if (n < 0) ↔ (d < 0) then mg n / g else -(mg n / g)) else 0) := by
      show oN n d = _
      split
      · rename_i h
        split
        · rename_i hs; exact (f1 h.1 h.2).1 hs
        · rename_i hs; exact (f1 h.1 h.2).2.1 hs
      · rename_i h; exact (f2 h).1
    have HD : Hid (oD n d = if mg n / g ≤ 9223372036854775807 ∧ mg d / g ≤ 9223372036854775807 then mg d / g else 0) := by
      show oD n d = _
      split
      · rename_i h; exact (f1 h.1 h.2).2.2.1
      · rename_i h; exact (f2 h).2.1
    have HE : Hid (oE n d = if mg n / g ≤ 9223372036854775807 ∧ mg d / g ≤ 9223372036854775807 then 0 else 2) := by
      show oE n d = _
      split
      · rename_i h; exact (f1 h.1 h.2).2.2.2
      · rename_i h; exact (f2 h).2.2
    clear f1 f2
    by_cases h1 : mg n / g ≤ 9223372036854775807
    · by_cases h2 : mg d / g ≤ 9223372036854775807
      · by_cases s1 : n < 0
        all_goals by_cases s2 : d < 0
        all_goals
          first | have q1 : decide (n < 0) = true := decide_eq_true s1 | have q1 : decide (n < 0) = false := decide_eq_false s1
          first | have q2 : decide (d < 0) = true := decide_eq_true s2 | have q2 : decide (d < 0) = false := decide_eq_false s2
          rw [HN.out, HD.out, HE.out]
          simp only [h1, h2, s1, s2, and_self, if_true, iff_self, if_pos trivial, iff_false, iff_true, not_true, not_false_iff, if_false, true_iff, false_iff]
          go_enter Tryd.func16, Tryd.ntmps16
          go_wp2_with (first
            | (go_at_call 32; refine (magnitude_any _ _ (by omega) (by omega)).mono ?_; rintro e w' ⟨rfl, rfl⟩)
            | (go_at_call 33; refine (HG.out _).mono ?_; rintro e w' ⟨rfl, k, rfl⟩))
          go_region
          go_wp2
          all_goals first
            | (exfalso; omega)
            | (exfalso; rename_i hz; first | (rw [q1, q2] at hz; exact absurd hz (by decide)) | (rw [q1] at hz; exact absurd hz (by decide)) | (rw [q2] at hz; exact absurd hz (by decide)))
            | (simp [bodyPost, results, Tryd.results16, go_sem]; exact (by repeat (first | refine Gr.setCell ?_ (by first | omega | (simp; done) | (simp; omega)) _ | refine Gr.alloc ?_ _ | refine Gr.drew ?_ | refine Gr.drewN ?_ _ | with_reducible assumption | with_reducible exact Gr.refl _ | refine Gr.trans ?_ (by with_reducible assumption))))
      · rw [HN.out, HD.out, HE.out]
        simp only [h1, h2, and_false, if_false]
        go_enter Tryd.func16, Tryd.ntmps16
        go_wp2_with (first
          | (go_at_call 32; refine (magnitude_any _ _ (by omega) (by omega)).mono ?_; rintro e w' ⟨rfl, rfl⟩)
          | (go_at_call 33; refine (HG.out _).mono ?_; rintro e w' ⟨rfl, k, rfl⟩))
        go_region
        go_wp2
        all_goals first
          | (exfalso; omega)
          | (simp [bodyPost, results, Tryd.results16, go_sem]; exact (by repeat (first | refine Gr.setCell ?_ (by first | omega | (simp; done) | (simp; omega)) _ | refine Gr.alloc ?_ _ | refine Gr.drew ?_ | refine Gr.drewN ?_ _ | with_reducible assumption | with_reducible exact Gr.refl _ | refine Gr.trans ?_ (by with_reducible assumption))))
    · rw [HN.out, HD.out, HE.out]
      simp only [h1, false_and, if_false]
      go_enter Tryd.func16, Tryd.ntmps16
      go_wp2_with (first
        | (go_at_call 32; refine (magnitude_any _ _ (by omega) (by omega)).mono ?_; rintro e w' ⟨rfl, rfl⟩)
        | (go_at_call 33; refine (HG.out _).mono ?_; rintro e w' ⟨rfl, k, rfl⟩))
      go_region
      go_wp2
      all_goals first
        | (exfalso; omega)
        | (simp [bodyPost, results, Tryd.results16, go_sem]; exact (by repeat (first | refine Gr.setCell ?_ (by first | omega | (simp; done) | (simp; omega)) _ | refine Gr.alloc ?_ _ | refine Gr.drew ?_ | refine Gr.drewN ?_ _ | with_reducible assumption | with_reducible exact Gr.refl _ | refine Gr.trans ?_ (by with_reducible assumption))))

end Go.Proofs.YtclfiaemjdflbaaDoor
