/-
  Contracts of the reference's Of, of Floor and Round, and of the sanity check.
  Conditions: the arguments are integers of their kinds.
-/
import Derived.Test.YtclfiaemjdflbaaWalkG
import Derived.Test.YtclfiaemjdflbaaReg
namespace Go.Proofs.Ytclfiaemjdflbaa
open Go.RowKit
set_option linter.unusedSimpArgs false
set_option linter.unusedVariables false

theorem of_vals {n d g : Int} (c0 : d ≠ 0) (hg : gc (mg n) (mg d) = g) :
    oN n d = (if mg n / g ≤ 9223372036854775807 ∧ mg d / g ≤ 9223372036854775807 then (if (n < 0) ↔ (d < 0) then mg n / g else -(mg n / g)) else 0) ∧
    oD n d = (if mg n / g ≤ 9223372036854775807 ∧ mg d / g ≤ 9223372036854775807 then mg d / g else 0) ∧
    oE n d = (if mg n / g ≤ 9223372036854775807 ∧ mg d / g ≤ 9223372036854775807 then 0 else 2) := by
  obtain ⟨f1, f2⟩ := of_facts (n := n) c0 hg
  by_cases h : mg n / g ≤ 9223372036854775807 ∧ mg d / g ≤ 9223372036854775807
  · rw [if_pos h, if_pos h, if_pos h]
    obtain ⟨a, b, c, e⟩ := f1 h.1 h.2
    refine ⟨?_, c, e⟩
    split
    · exact a ‹_›
    · exact b ‹_›
  · rw [if_neg h, if_neg h, if_neg h]
    exact f2 h

set_option maxHeartbeats 1000000 in
theorem rof_any (n d : Int) (w : World) (hn : I64 n) (hd : I64 d) :
    Calls Try.prog 13 #[.int .i64 n, .int .i64 d] w fun e w' => e = .returned (.tuple #[.agg #[.int .i64 (oN n d), .int .i64 (oD n d)], .int .i64 (oE n d)]) ∧ Gr w w' := by
  obtain ⟨n1, n2⟩ := hn
  obtain ⟨d1, d2⟩ := hd
  by_cases c0 : d = 0
  · subst c0
    go_enter Try.func13, Try.ntmps13
    go_wp2
    simp [bodyPost, results, Try.results13, go_sem]
    exact ⟨by simp [oN, oD, oE], (by repeat (first | exact Gr.refl _ | assumption | refine Gr.alloc ?_ _ | refine Gr.drew ?_ | refine Gr.drewN ?_ _ | refine Gr.setCell ?_ (by first | omega | (simp; done) | (simp; omega)) _ | refine Gr.trans ?_ (by assumption)))⟩
  · have c1 : (d == 0) = false := by simpa using c0
    have b1 := mg_nonneg n
    have b2 := mg_lt n n1 n2
    have b3 := mg_nonneg d
    have b4 := mg_lt d d1 d2
    have hmd : 0 < mg d := by unfold mg; split <;> omega
    obtain ⟨g, hg⟩ : ∃ g, gc (mg n) (mg d) = g := ⟨_, rfl⟩
    have hg0 : 0 < g := by rw [← hg]; exact gc_pos_right _ _ hmd
    have hgl : g ≤ mg d := by rw [← hg]; exact gc_le_right _ _ hmd
    have HV := Lib.hid (of_vals c0 hg)
    have HG := Lib.hid (fun w => hg ▸ rgcd_any (mg n) (mg d) w (by omega) (by omega) (by omega) (by omega))
    have p1 : 0 ≤ mg n / g := Int.ediv_nonneg b1 (by omega)
    have p2 : mg n / g ≤ mg n := Int.ediv_le_self _ b1
    have p3 : 0 ≤ mg d / g := Int.ediv_nonneg b3 (by omega)
    have p4 : mg d / g ≤ mg d := Int.ediv_le_self _ b3
    clear hg
    have HM : Hid (∀ (b : Bool) (w : World), (b = true → ¬ (n < 0 ↔ d < 0)) → (b = false → n = 0 ∨ (n < 0 ↔ d < 0)) → Calls Try.prog 40 #[.bool b, .int .u64 (mg n / g), .int .u64 (mg d / g)] w fun e w' => e = .returned (.tuple #[.agg #[.int .i64 (oN n d), .int .i64 (oD n d)], .int .i64 (oE n d)]) ∧ Gr w w') := by
      intro b w hb1 hb2
      rw [HV.out.1, HV.out.2.1, HV.out.2.2]
      cases b
      · have := made_pos (mg n / g) (mg d / g) w p1 (by omega) p3 (by omega)
        refine this.mono ?_
        rintro e w' ⟨rfl, h⟩
        refine ⟨?_, h⟩
        rcases hb2 rfl with h0 | h0
        · subst h0
          have e0 : mg 0 / g = 0 := by simp [mg]
          rw [e0]; simp
        · rw [if_pos h0]; rfl
      · have := made_neg (mg n / g) (mg d / g) w p1 (by omega) p3 (by omega)
        rw [if_neg (hb1 rfl)]
        exact this
    have HM1 : Hid (¬ (n < 0 ↔ d < 0) → ∀ w, Calls Try.prog 40 #[.bool true, .int .u64 (mg n / g), .int .u64 (mg d / g)] w fun e w' => e = .returned (.tuple #[.agg #[.int .i64 (oN n d), .int .i64 (oD n d)], .int .i64 (oE n d)]) ∧ Gr w w') := fun h w => HM.out true w (fun _ => h) (fun h => by cases h)
    have HM0 : Hid ((n = 0 ∨ (n < 0 ↔ d < 0)) → ∀ w, Calls Try.prog 40 #[.bool false, .int .u64 (mg n / g), .int .u64 (mg d / g)] w fun e w' => e = .returned (.tuple #[.agg #[.int .i64 (oN n d), .int .i64 (oD n d)], .int .i64 (oE n d)]) ∧ Gr w w') := fun h w => HM.out false w (fun h => by cases h) (fun _ => h)
    clear HM HV
    rcases (show (n = 0) ∨ (n < 0 ∧ d < 0) ∨ (n < 0 ∧ ¬ d < 0) ∨ (0 < n ∧ d < 0) ∨ (0 < n ∧ ¬ d < 0) by omega) with c | ⟨c, c'⟩ | ⟨c, c'⟩ | ⟨c, c'⟩ | ⟨c, c'⟩
    · have HK := Lib.hid (HM0.out (.inl c))
      have q2 : (n != 0) = false := by simpa using c
      clear c HM0 HM1
      go_enter Try.func13, Try.ntmps13
      go_wp2_with (first
        | (go_at_call 39; refine (mag_any _ _ (by omega) (by omega)).mono ?_; rintro e w' ⟨rfl, rfl⟩)
        | (go_at_call 38; refine (HG.out _).mono ?_; rintro e w' ⟨rfl, k, rfl⟩))
      refine wp_region_gr_tail 20 (by kernel_rfl) (by kernel_rfl) (fun hq1 hq2 => ?_)
      simp only [List.take_succ_cons, List.take_zero, List.drop_succ_cons, List.drop_zero]
      repeat (first | go_big_quiet_skip | (go_big_quiet_want; go_big_quiet_op; first | go_big_quiet_on | (apply Exists.intro; refine ⟨fun _ => ?_, ?_⟩; (· (first | (go_at_call 39; exact gr_call_same (mag_any _ _ (by omega) (by omega))) | (go_at_call 40; exact gr_call (HK.out _)))); go_big_quiet_on)))
      refine wpQuiet_nil ?_
      clear hq1 hq2
      rintro w1 ⟨⟨_, hg1⟩, rfl⟩
      obtain ⟨hc1, hf1⟩ := hg1.cells
      go_wp2
      simp [bodyPost, results, Try.results13, go_sem, hc1, hf1]
      exact (by repeat (first | exact Gr.refl _ | assumption | refine Gr.alloc ?_ _ | refine Gr.drew ?_ | refine Gr.drewN ?_ _ | refine Gr.setCell ?_ (by first | omega | (simp; done) | (simp; omega)) _ | refine Gr.trans ?_ (by assumption)))
    · have HK := Lib.hid (HM0.out (.inr (by omega)))
      have q2 : (n != 0) = true := by simp; omega
      clear HM0 HM1
      go_enter Try.func13, Try.ntmps13
      go_wp2_with (first
        | (go_at_call 39; refine (mag_any _ _ (by omega) (by omega)).mono ?_; rintro e w' ⟨rfl, rfl⟩)
        | (go_at_call 38; refine (HG.out _).mono ?_; rintro e w' ⟨rfl, k, rfl⟩))
      refine wp_region_gr_tail 20 (by kernel_rfl) (by kernel_rfl) (fun hq1 hq2 => ?_)
      simp only [List.take_succ_cons, List.take_zero, List.drop_succ_cons, List.drop_zero]
      repeat (first | go_big_quiet_skip | (go_big_quiet_want; go_big_quiet_op; first | go_big_quiet_on | (apply Exists.intro; refine ⟨fun _ => ?_, ?_⟩; (· (first | (go_at_call 39; exact gr_call_same (mag_any _ _ (by omega) (by omega))) | (go_at_call 40; exact gr_call (HK.out _)))); go_big_quiet_on)))
      refine wpQuiet_nil ?_
      clear hq1 hq2
      rintro w1 ⟨⟨_, hg1⟩, rfl⟩
      obtain ⟨hc1, hf1⟩ := hg1.cells
      go_wp2
      simp [bodyPost, results, Try.results13, go_sem, hc1, hf1]
      exact (by repeat (first | exact Gr.refl _ | assumption | refine Gr.alloc ?_ _ | refine Gr.drew ?_ | refine Gr.drewN ?_ _ | refine Gr.setCell ?_ (by first | omega | (simp; done) | (simp; omega)) _ | refine Gr.trans ?_ (by assumption)))
    · have HK := Lib.hid (HM1.out (by omega))
      have q2 : (n != 0) = true := by simp; omega
      have q3 : decide (d < 0) = false := decide_eq_false c'
      clear HM0 HM1
      go_enter Try.func13, Try.ntmps13
      go_wp2_with (first
        | (go_at_call 39; refine (mag_any _ _ (by omega) (by omega)).mono ?_; rintro e w' ⟨rfl, rfl⟩)
        | (go_at_call 38; refine (HG.out _).mono ?_; rintro e w' ⟨rfl, k, rfl⟩))
      refine wp_region_gr_tail 20 (by kernel_rfl) (by kernel_rfl) (fun hq1 hq2 => ?_)
      simp only [List.take_succ_cons, List.take_zero, List.drop_succ_cons, List.drop_zero]
      repeat (first | go_big_quiet_skip | (go_big_quiet_want; go_big_quiet_op; first | go_big_quiet_on | (apply Exists.intro; refine ⟨fun _ => ?_, ?_⟩; (· (first | (go_at_call 39; exact gr_call_same (mag_any _ _ (by omega) (by omega))) | (go_at_call 40; exact gr_call (HK.out _)))); go_big_quiet_on)))
      refine wpQuiet_nil ?_
      clear hq1 hq2
      rintro w1 ⟨⟨_, hg1⟩, rfl⟩
      obtain ⟨hc1, hf1⟩ := hg1.cells
      go_wp2
      simp [bodyPost, results, Try.results13, go_sem, hc1, hf1]
      exact (by repeat (first | exact Gr.refl _ | assumption | refine Gr.alloc ?_ _ | refine Gr.drew ?_ | refine Gr.drewN ?_ _ | refine Gr.setCell ?_ (by first | omega | (simp; done) | (simp; omega)) _ | refine Gr.trans ?_ (by assumption)))
    · have HK := Lib.hid (HM1.out (by omega))
      have q2 : (n != 0) = true := by simp; omega
      have q3 : decide (n < 0) = false := decide_eq_false (by omega)
      clear HM0 HM1
      go_enter Try.func13, Try.ntmps13
      go_wp2_with (first
        | (go_at_call 39; refine (mag_any _ _ (by omega) (by omega)).mono ?_; rintro e w' ⟨rfl, rfl⟩)
        | (go_at_call 38; refine (HG.out _).mono ?_; rintro e w' ⟨rfl, k, rfl⟩))
      refine wp_region_gr_tail 20 (by kernel_rfl) (by kernel_rfl) (fun hq1 hq2 => ?_)
      simp only [List.take_succ_cons, List.take_zero, List.drop_succ_cons, List.drop_zero]
      repeat (first | go_big_quiet_skip | (go_big_quiet_want; go_big_quiet_op; first | go_big_quiet_on | (apply Exists.intro; refine ⟨fun _ => ?_, ?_⟩; (· (first | (go_at_call 39; exact gr_call_same (mag_any _ _ (by omega) (by omega))) | (go_at_call 40; exact gr_call (HK.out _)))); go_big_quiet_on)))
      refine wpQuiet_nil ?_
      clear hq1 hq2
      rintro w1 ⟨⟨_, hg1⟩, rfl⟩
      obtain ⟨hc1, hf1⟩ := hg1.cells
      go_wp2
      simp [bodyPost, results, Try.results13, go_sem, hc1, hf1]
      exact (by repeat (first | exact Gr.refl _ | assumption | refine Gr.alloc ?_ _ | refine Gr.drew ?_ | refine Gr.drewN ?_ _ | refine Gr.setCell ?_ (by first | omega | (simp; done) | (simp; omega)) _ | refine Gr.trans ?_ (by assumption)))
    · have HK := Lib.hid (HM0.out (.inr (by omega)))
      have q2 : (n != 0) = true := by simp; omega
      have q3 : decide (n < 0) = false := decide_eq_false (by omega)
      have q4 : decide (d < 0) = false := decide_eq_false c'
      clear HM0 HM1
      go_enter Try.func13, Try.ntmps13
      go_wp2_with (first
        | (go_at_call 39; refine (mag_any _ _ (by omega) (by omega)).mono ?_; rintro e w' ⟨rfl, rfl⟩)
        | (go_at_call 38; refine (HG.out _).mono ?_; rintro e w' ⟨rfl, k, rfl⟩))
      refine wp_region_gr_tail 20 (by kernel_rfl) (by kernel_rfl) (fun hq1 hq2 => ?_)
      simp only [List.take_succ_cons, List.take_zero, List.drop_succ_cons, List.drop_zero]
      repeat (first | go_big_quiet_skip | (go_big_quiet_want; go_big_quiet_op; first | go_big_quiet_on | (apply Exists.intro; refine ⟨fun _ => ?_, ?_⟩; (· (first | (go_at_call 39; exact gr_call_same (mag_any _ _ (by omega) (by omega))) | (go_at_call 40; exact gr_call (HK.out _)))); go_big_quiet_on)))
      refine wpQuiet_nil ?_
      clear hq1 hq2
      rintro w1 ⟨⟨_, hg1⟩, rfl⟩
      obtain ⟨hc1, hf1⟩ := hg1.cells
      go_wp2
      simp [bodyPost, results, Try.results13, go_sem, hc1, hf1]
      exact (by repeat (first | exact Gr.refl _ | assumption | refine Gr.alloc ?_ _ | refine Gr.drew ?_ | refine Gr.drewN ?_ _ | refine Gr.setCell ?_ (by first | omega | (simp; done) | (simp; omega)) _ | refine Gr.trans ?_ (by assumption)))

end Go.Proofs.Ytclfiaemjdflbaa
