
/-
  Contracts of Label of package timecode and of its reference.
  Conditions: the arguments are integers of their kinds.
-/
import Derived.Test.YtgbiodnfpbhjiaaGreatDoorWalk19B
namespace Go.Proofs.YtgbiodnfpbhjiaaGreatDoor.C19
open Go.RowKit
set_option linter.unusedSimpArgs false
set_option linter.unusedVariables false

set_option maxHeartbeats 400000 in
theorem label_no (n b : Int) (d : Bool) (w : World) (h : okB b d = false) :
    Calls Tryz.prog 133 #[.int .i64 n, .int .i64 b, .bool d] w fun e w' => e = .returned (.tuple #[.agg #[.int .i64 0, .int .i64 0, .int .i64 0, .int .i64 0, .int .i64 0, .bool false], .int .i64 1]) ∧ Gr w w' := by
  go_enter Tryz.func133, Tryz.ntmps133
  go_wp2_with (go_at_call 35; refine (day_no _ _ _ h).mono ?_; rintro e w' ⟨rfl, rfl⟩)
  simp [bodyPost, results, Tryz.results133, go_sem]
  exact (by repeat (first | refine Gr.setCell ?_ (by first | omega | (simp; done) | (simp; omega)) _ | refine Gr.alloc ?_ _ | refine Gr.drew ?_ | refine Gr.drewN ?_ _ | with_reducible assumption | with_reducible exact Gr.refl _ | refine Gr.trans ?_ (by with_reducible assumption)))
set_option maxHeartbeats 400000 in
theorem rlabel_no (n b : Int) (d : Bool) (w : World) (h : okB b d = false) :
    Calls Tryz.prog 104 #[.int .i64 n, .int .i64 b, .bool d] w fun e w' => e = .returned (.tuple #[.agg #[.int .i64 0, .int .i64 0, .int .i64 0, .int .i64 0, .int .i64 0, .bool false], .int .i64 1]) ∧ Gr w w' := by
  go_enter Tryz.func104, Tryz.ntmps104
  go_wp2_with (go_at_call 38; refine (rday_no _ _ _ h).mono ?_; rintro e w' ⟨rfl, rfl⟩)
  simp [bodyPost, results, Tryz.results104, go_sem]
  exact (by repeat (first | refine Gr.setCell ?_ (by first | omega | (simp; done) | (simp; omega)) _ | refine Gr.alloc ?_ _ | refine Gr.drew ?_ | refine Gr.drewN ?_ _ | with_reducible assumption | with_reducible exact Gr.refl _ | refine Gr.trans ?_ (by with_reducible assumption)))

set_option maxHeartbeats 1000000 in
theorem label_any (n b : Int) (d : Bool) (w : World) (hn : I64 n) (h : okB b d = true) :
    Calls Tryz.prog 133 #[.int .i64 n, .int .i64 b, .bool d] w fun e w' => e = .returned (.tuple #[.agg #[.int .i64 (lm n b d / 60), .int .i64 (lm n b d % 60), .int .i64 (lf n b d / b), .int .i64 (lf n b d % b), .int .i64 b, .bool d], .int .i64 0]) ∧ Gr w w' := by
  obtain ⟨b1, b2, b3, b4⟩ := okB_bounds h
  obtain ⟨hD1, hD2⟩ := dayN_pos h
  have lb := l_bounds (n := n) h
  have HDY := Lib.hid (fun w => day_yes b d w h)
  have HMO := Lib.hid (fun w => modulo_any n (dayN b d) w hn hD1 (by omega))
  have HDR := Lib.hid (fun w => dropped_any b d w (by omega) (by omega))
  have r0 : 0 ≤ n % dayN b d := Int.emod_nonneg _ (by omega)
  have r1 : n % dayN b d < dayN b d := Int.emod_lt_of_pos _ hD1
  have HM : Hid (lm n b d = if n % dayN b d % (600 * b - 9 * drp b d) < 60 * b then n % dayN b d / (600 * b - 9 * drp b d) * 10
    else n % dayN b d / (600 * b - 9 * drp b d) * 10 + (1 + (n % dayN b d % (600 * b - 9 * drp b d) - 60 * b) / (60 * b - drp b d))) := rfl
  have HF : Hid (lf n b d = if n % dayN b d % (600 * b - 9 * drp b d) < 60 * b then n % dayN b d % (600 * b - 9 * drp b d)
    else drp b d + (n % dayN b d % (600 * b - 9 * drp b d) - 60 * b) % (60 * b - drp b d)) := rfl
  generalize lm n b d = M at *
  generalize lf n b d = F at *
  generalize n % dayN b d = r at *
  generalize dayN b d = D at *
  generalize drp b d = k at *
  clear hD1 h
  have q0 : 0 ≤ r / (600 * b - 9 * k) := Int.ediv_nonneg r0 (by omega)
  have q1 : r / (600 * b - 9 * k) ≤ r := Int.ediv_le_self _ r0
  have m0 : 0 ≤ r % (600 * b - 9 * k) := Int.emod_nonneg _ (by omega)
  have m1 : r % (600 * b - 9 * k) < 600 * b - 9 * k := Int.emod_lt_of_pos _ (by omega)
  obtain ⟨l1, l2, l3, l4⟩ := lb
  by_cases hc : r % (600 * b - 9 * k) < 60 * b
  · have HM := Lib.hid (HM.out.trans (if_pos hc))
    have HF := Lib.hid (HF.out.trans (if_pos hc))
    have s0 : 0 ≤ r % (600 * b - 9 * k) / b := Int.ediv_nonneg m0 (by omega)
    have s1 : r % (600 * b - 9 * k) / b ≤ r % (600 * b - 9 * k) := Int.ediv_le_self _ m0
    have s2 : 0 ≤ r % (600 * b - 9 * k) % b := Int.emod_nonneg _ (by omega)
    have s3 : r % (600 * b - 9 * k) % b < b := Int.emod_lt_of_pos _ (by omega)
    go_enter Tryz.func133, Tryz.ntmps133
    go_wp2_with (first
      | (go_at_call 35; refine (HDY.out _).mono ?_; rintro e w' ⟨rfl, rfl⟩)
      | (go_at_call 175; refine (HMO.out _).mono ?_; rintro e w' ⟨rfl, rfl⟩)
      | (go_at_call 79; refine (HDR.out _).mono ?_; rintro e w' ⟨rfl, rfl⟩))
    refine wp_region_gr (by kernel_rfl) (by kernel_rfl) (fun hq1 hq2 => ?_)
    repeat (first | go_big_quiet_skip | (go_big_quiet_want; go_big_quiet_op; first | go_big_quiet_on | (apply Exists.intro; refine ⟨fun _ => ?_, ?_⟩; (· (fail)); go_big_quiet_on)))
    refine wpQuiet_nil ?_
    clear hq1 hq2
    rintro w1 ⟨⟨_, hg1⟩, rfl⟩
    obtain ⟨hc1, hf1⟩ := hg1.cells
    have hz1 := hg1.size
    (try simp at hz1); (try have hl1_0_0 : w.heap.size < w1.heap.size := by omega); (try have hm1_0_0 : w.heap.size ≤ w1.heap.size := by omega); (try have hl1_0_1 : w.heap.size + 1 < w1.heap.size := by omega); (try have hl1_0_2 : w.heap.size + 2 < w1.heap.size := by omega)
    go_wp2
    refine wp_region_gr_tail 13 (by kernel_rfl) (by kernel_rfl) (fun hq1 hq2 => ?_)
    simp only [List.take_succ_cons, List.take_zero, List.drop_succ_cons, List.drop_zero]
    repeat (first | go_big_quiet_skip | (go_big_quiet_want; go_big_quiet_op; first | go_big_quiet_on | (apply Exists.intro; refine ⟨fun _ => ?_, ?_⟩; (· (fail)); go_big_quiet_on)))
    refine wpQuiet_nil ?_
    clear hq1 hq2
    rintro w2 ⟨⟨_, hg2⟩, rfl⟩
    obtain ⟨hc2, hf2⟩ := hg2.cells
    have hz2 := hg2.size
    (try simp at hz2); (try have hl2_0_0 : w.heap.size < w2.heap.size := by omega); (try have hm2_0_0 : w.heap.size ≤ w2.heap.size := by omega); (try have hl2_0_1 : w.heap.size + 1 < w2.heap.size := by omega); (try have hl2_0_2 : w.heap.size + 2 < w2.heap.size := by omega); (try have hl2_1_0 : w1.heap.size < w2.heap.size := by omega); (try have hm2_1_0 : w1.heap.size ≤ w2.heap.size := by omega); (try have hl2_1_1 : w1.heap.size + 1 < w2.heap.size := by omega); (try have hl2_1_2 : w1.heap.size + 2 < w2.heap.size := by omega)
    go_wp2
    simp [bodyPost, results, Tryz.results133, go_sem, hc2, hf2, hc1, hf1, hl1_0_0]
    refine ⟨?_, (by repeat (first | refine Gr.setCell ?_ (by first | omega | (simp; done) | (simp; omega)) _ | refine Gr.alloc ?_ _ | refine Gr.drew ?_ | refine Gr.drewN ?_ _ | with_reducible assumption | with_reducible exact Gr.refl _ | refine Gr.trans ?_ (by with_reducible assumption)))⟩
    rw [HM.out, HF.out]
    exact ⟨rfl, rfl, rfl, rfl⟩
  · have HM := Lib.hid (HM.out.trans (if_neg hc))
    have HF := Lib.hid (HF.out.trans (if_neg hc))
    have f0 : 0 ≤ r % (600 * b - 9 * k) - 60 * b := by omega
    have u0 : 0 ≤ (r % (600 * b - 9 * k) - 60 * b) / (60 * b - k) := Int.ediv_nonneg f0 (by omega)
    have u1 : (r % (600 * b - 9 * k) - 60 * b) / (60 * b - k) ≤ r % (600 * b - 9 * k) - 60 * b := Int.ediv_le_self _ f0
    have v0 : 0 ≤ (r % (600 * b - 9 * k) - 60 * b) % (60 * b - k) := Int.emod_nonneg _ (by omega)
    have v1 : (r % (600 * b - 9 * k) - 60 * b) % (60 * b - k) < 60 * b - k := Int.emod_lt_of_pos _ (by omega)
    have y0 : 0 ≤ k + (r % (600 * b - 9 * k) - 60 * b) % (60 * b - k) := by omega
    have s0 : 0 ≤ (k + (r % (600 * b - 9 * k) - 60 * b) % (60 * b - k)) / b := Int.ediv_nonneg y0 (by omega)
    have s1 : (k + (r % (600 * b - 9 * k) - 60 * b) % (60 * b - k)) / b ≤ k + (r % (600 * b - 9 * k) - 60 * b) % (60 * b - k) := Int.ediv_le_self _ y0
    have s2 : 0 ≤ (k + (r % (600 * b - 9 * k) - 60 * b) % (60 * b - k)) % b := Int.emod_nonneg _ (by omega)
    have s3 : (k + (r % (600 * b - 9 * k) - 60 * b) % (60 * b - k)) % b < b := Int.emod_lt_of_pos _ (by omega)
    go_enter Tryz.func133, Tryz.ntmps133
    go_wp2_with (first
      | (go_at_call 35; refine (HDY.out _).mono ?_; rintro e w' ⟨rfl, rfl⟩)
      | (go_at_call 175; refine (HMO.out _).mono ?_; rintro e w' ⟨rfl, rfl⟩)
      | (go_at_call 79; refine (HDR.out _).mono ?_; rintro e w' ⟨rfl, rfl⟩))
    refine wp_region_gr (by kernel_rfl) (by kernel_rfl) (fun hq1 hq2 => ?_)
    repeat (first | go_big_quiet_skip | (go_big_quiet_want; go_big_quiet_op; first | go_big_quiet_on | (apply Exists.intro; refine ⟨fun _ => ?_, ?_⟩; (· (fail)); go_big_quiet_on)))
    refine wpQuiet_nil ?_
    clear hq1 hq2
    rintro w1 ⟨⟨_, hg1⟩, rfl⟩
    obtain ⟨hc1, hf1⟩ := hg1.cells
    have hz1 := hg1.size
    (try simp at hz1); (try have hl1_0_0 : w.heap.size < w1.heap.size := by omega); (try have hm1_0_0 : w.heap.size ≤ w1.heap.size := by omega); (try have hl1_0_1 : w.heap.size + 1 < w1.heap.size := by omega); (try have hl1_0_2 : w.heap.size + 2 < w1.heap.size := by omega)
    go_wp2
    refine wp_region_gr_tail 13 (by kernel_rfl) (by kernel_rfl) (fun hq1 hq2 => ?_)
    simp only [List.take_succ_cons, List.take_zero, List.drop_succ_cons, List.drop_zero]
    repeat (first | go_big_quiet_skip | (go_big_quiet_want; go_big_quiet_op; first | go_big_quiet_on | (apply Exists.intro; refine ⟨fun _ => ?_, ?_⟩; (· (fail)); go_big_quiet_on)))
    refine wpQuiet_nil ?_
    clear hq1 hq2
    rintro w2 ⟨⟨_, hg2⟩, rfl⟩
    obtain ⟨hc2, hf2⟩ := hg2.cells
    have hz2 := hg2.size
    (try simp at hz2); (try have hl2_0_0 : w.heap.size < w2.heap.size := by omega); (try have hm2_0_0 : w.heap.size ≤ w2.heap.size := by omega); (try have hl2_0_1 : w.heap.size + 1 < w2.heap.size := by omega); (try have hl2_0_2 : w.heap.size + 2 < w2.heap.size := by omega); (try have hl2_1_0 : w1.heap.size < w2.heap.size := by omega); (try have hm2_1_0 : w1.heap.size ≤ w2.heap.size := by omega); (try have hl2_1_1 : w1.heap.size + 1 < w2.heap.size := by omega); (try have hl2_1_2 : w1.heap.size + 2 < w2.heap.size := by omega)
    go_wp2
    simp [bodyPost, results, Tryz.results133, go_sem, hc2, hf2, hc1, hf1, hl1_0_0]
    refine ⟨?_, (by repeat (first | refine Gr.setCell ?_ (by first | omega | (simp; done) | (simp; omega)) _ | refine Gr.alloc ?_ _ | refine Gr.drew ?_ | refine Gr.drewN ?_ _ | with_reducible assumption | with_reducible exact Gr.refl _ | refine Gr.trans ?_ (by with_reducible assumption)))⟩
    rw [HM.out, HF.out]
    exact ⟨rfl, rfl, rfl, rfl⟩

set_option maxRecDepth 100000 in
set_option maxHeartbeats 1000000 in
theorem rlabel_any (n b : Int) (d : Bool) (w : World) (hn : I64 n) (h : okB b d = true) :
    Calls Tryz.prog 104 #[.int .i64 n, .int .i64 b, .bool d] w fun e w' => e = .returned (.tuple #[.agg #[.int .i64 (lm n b d / 60), .int .i64 (lm n b d % 60), .int .i64 (lf n b d / b), .int .i64 (lf n b d % b), .int .i64 b, .bool d], .int .i64 0]) ∧ Gr w w' := by
  obtain ⟨b1, b2, b3, b4⟩ := okB_bounds h
  obtain ⟨hD1, hD2⟩ := dayN_pos h
  have lb := l_bounds (n := n) h
  have HDY := Lib.hid (fun w => rday_yes b d w h)
  have r0 : 0 ≤ n % dayN b d := Int.emod_nonneg _ (by omega)
  have r1 : n % dayN b d < dayN b d := Int.emod_lt_of_pos _ hD1
  have HU : Hid (∀ m : Nat, stN b d m ≤ n % dayN b d → n % dayN b d < stN b d (m + 1) → (m : Int) = lm n b d ∧ n % dayN b d - stN b d m + dm m b d = lf n b d) := (fun m h1 h2 => r_unique h r0 h1 h2 : ∀ m : Nat, stN b d m ≤ n % dayN b d → n % dayN b d < stN b d (m + 1) → (m : Int) = lm n b d ∧ n % dayN b d - stN b d m + dm m b d = lf n b d)
  have HO := Lib.hid h
  have HE : Hid (∀ m : Nat, stN b d m ≤ n % dayN b d → m < 1440) := (fun m h1 => by
    rcases Nat.lt_or_ge m 1440 with h2 | h2
    · exact h2
    · have h3 := stN_mono b d h 1440 (m - 1440)
      rw [show 1440 + (m - 1440) = m by omega, stN_day] at h3
      omega : ∀ m : Nat, stN b d m ≤ n % dayN b d → m < 1440)
  have HT : ∃ t, (0 ≤ n → n % dayN b d = t) ∧ (n < 0 → n.tmod (dayN b d) = t) ∧ (t + dayN b d) % dayN b d = n % dayN b d ∧ -dayN b d < t ∧ t < dayN b d := by
    rcases (show 0 ≤ n ∨ n < 0 by omega) with c | c
    · refine ⟨n % dayN b d, fun _ => rfl, fun h => by omega, ?_, by omega, r1⟩
      rw [Int.add_emod_right, Int.emod_emod_of_dvd _ (Int.dvd_refl _)]
    · have ht := tmod_pos_cases (n := n) hD1 c
      rcases (show n % dayN b d = 0 ∨ 0 < n % dayN b d by omega) with c' | c'
      · refine ⟨0, fun h => by omega, fun _ => ht.1 c', ?_, by omega, by omega⟩
        rw [Int.zero_add, Int.emod_self, c']
      · refine ⟨n % dayN b d - dayN b d, fun h => by omega, fun _ => ht.2 c', ?_, by omega, by omega⟩
        rw [Int.sub_add_cancel, Int.emod_emod_of_dvd _ (Int.dvd_refl _)]
  obtain ⟨t, t1, t2, t3, t4, t5⟩ := HT
  obtain ⟨n1, n2⟩ := hn
  generalize lm n b d = M at *
  generalize lf n b d = F at *
  generalize hr : n % dayN b d = r at *
  generalize dayN b d = D at *
  clear hD1 h
  obtain ⟨l1, l2, l3, l4⟩ := lb
  have hX : (0 ≤ n ∧ n % D = t) ∨ (n < 0 ∧ n.tmod D = t) := by
    rcases (show 0 ≤ n ∨ n < 0 by omega) with c | c
    · exact .inl ⟨c, by rw [hr]; exact t1 c⟩
    · exact .inr ⟨c, t2 c⟩
  clear t1 t2 hr
  rcases hX with ⟨c, c'⟩ | ⟨c, c'⟩
  all_goals
    go_enter Tryz.func104, Tryz.ntmps104
    go_wp2_with (go_at_call 38; refine (HDY.out _).mono ?_; rintro e w' ⟨rfl, rfl⟩)
    rw [t3]
    clear t3 c'
    go_loop [0, 10] (fun x m => ∃ k : Nat, k < 1440 ∧ Hid (stN b d k ≤ r) ∧ m = .int .i64 k ∧ x = .int .i64 (r - stN b d k)) (fun _ m => 1440 - (intOf m).toNat)
    case atStart => exact ⟨0, by omega, r0, rfl, by simp [stN]⟩
    case round =>
      obtain ⟨k, hk, hs, rfl, rfl⟩ := hrel
      have sb := stN_bounds HO.out (show k ≤ 1440 by omega)
      have db := dm_bounds (m := (k : Int)) HO.out
      have hle := hs.out
      have HC := Lib.hid (fun w => rdropped_any (k : Int) b d w (by omega) (by omega) (by omega) (by omega))
      have HU := Lib.hid (HU.out k hs.out)
      have HE := Lib.hid (HE.out (k + 1))
      have HS : Hid (stN b d (k + 1) = stN b d k + 60 * b - dm (k : Int) b d) := rfl
      generalize hS : stN b d k = s at *
      generalize dm (k : Int) b d = δ at *
      clear hS
      by_cases hlt : 60 * b - δ ≤ r - s
      · go_wp2_with (go_at_call 83; refine (HC.out _).mono ?_; rintro e w' ⟨rfl, rfl⟩)
        have he := HE.out (by rw [HS.out]; omega)
        go_round
        case rel => exact ⟨k + 1, he, (by show stN b d (k + 1) ≤ r; rw [HS.out]; omega), by go_num, by rw [HS.out, show r - (s + 60 * b - δ) = r - s - 60 * b + δ by omega]⟩
        case measure => simp [intOf]; omega
      · obtain ⟨m1, m2⟩ := HU.out (by rw [HS.out]; omega)
        subst m1
        subst m2
        have s0 : 0 ≤ (r - s + δ) / b := Int.ediv_nonneg l3 (by omega)
        have s1 : (r - s + δ) / b ≤ r - s + δ := Int.ediv_le_self _ l3
        have s2 : 0 ≤ (r - s + δ) % b := Int.emod_nonneg _ (by omega)
        have s3 : (r - s + δ) % b < b := Int.emod_lt_of_pos _ (by omega)
        go_wp2_with (go_at_call 83; refine (HC.out _).mono ?_; rintro e w' ⟨rfl, rfl⟩)
        refine wp_region_gr_tail 13 (by kernel_rfl) (by kernel_rfl) (fun hq1 hq2 => ?_)
        simp only [List.take_succ_cons, List.take_zero, List.drop_succ_cons, List.drop_zero]
        repeat (first | go_big_quiet_skip | (go_big_quiet_want; go_big_quiet_op; first | go_big_quiet_on | (apply Exists.intro; refine ⟨fun _ => ?_, ?_⟩; (· (fail)); go_big_quiet_on)))
        refine wpQuiet_nil ?_
        clear hq1 hq2
        rintro w1 ⟨⟨_, hg1⟩, rfl⟩
        obtain ⟨hc1, hf1⟩ := hg1.cells
        have hz1 := hg1.size
        (try simp at hz1); (try have hl1_0_0 : w.heap.size < w1.heap.size := by omega); (try have hm1_0_0 : w.heap.size ≤ w1.heap.size := by omega); (try have hl1_0_1 : w.heap.size + 1 < w1.heap.size := by omega); (try have hl1_0_2 : w.heap.size + 2 < w1.heap.size := by omega)
        go_wp2
        simp [bodyPost, results, Tryz.results104, go_sem, hc1, hf1]
        exact (by repeat (first | refine Gr.setCell ?_ (by first | omega | (simp; done) | (simp; omega)) _ | refine Gr.alloc ?_ _ | refine Gr.drew ?_ | refine Gr.drewN ?_ _ | with_reducible assumption | with_reducible exact Gr.refl _ | refine Gr.trans ?_ (by with_reducible assumption)))
end Go.Proofs.YtgbiodnfpbhjiaaGreatDoor.C19
