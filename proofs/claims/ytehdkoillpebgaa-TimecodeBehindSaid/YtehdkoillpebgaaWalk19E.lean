/-
  Contracts of below and Base of the reference of timecodes.
  Conditions: the arguments are integers of their kinds.
-/
import Derived.Test.YtehdkoillpebgaaWalk19A
import Derived.Test.YtehdkoillpebgaaMath19B
namespace Go.Proofs.Ytehdkoillpebgaa
open Go.RowKit
set_option linter.unusedSimpArgs false
set_option linter.unusedVariables false

set_option maxRecDepth 100000 in
theorem below_24 (w : World) :
    Calls Try.prog 36 #[.int .i64 24] w fun e w' => e = .returned (.agg #[.int .i64 (24 * 1000), .int .i64 1001]) ∧ Gr w w' := by
  go_enter Try.func36, Try.ntmps36
  go_wp2
  go_loop [3, 4, 6, 11] (fun n d _ i => ∃ k : Nat, k ≤ 3 ∧ i = .int .i64 k ∧ n = .int .i64 24000 ∧ d = .int .i64 1001) (fun _ _ _ i => 3 - (intOf i).toNat)
  case atStart => exact ⟨0, by omega, rfl, rfl, rfl⟩
  case round =>
    obtain ⟨k, hk, rfl, rfl, rfl⟩ := hrel
    rcases (show k = 0 ∨ k = 1 ∨ k = 2 ∨ k = 3 by omega) with rfl | rfl | rfl | rfl
    · go_wp2
      go_round
      case rel => exact ⟨0 + 1, by omega, rfl, rfl, rfl⟩
      case measure => simp [intOf]
    · go_wp2
      go_round
      case rel => exact ⟨1 + 1, by omega, rfl, rfl, rfl⟩
      case measure => simp [intOf]
    · go_wp2
      go_round
      case rel => exact ⟨2 + 1, by omega, rfl, rfl, rfl⟩
      case measure => simp [intOf]
    · go_wp2
      simp [bodyPost, results, Try.results36, go_sem]
      exact (by repeat (first | refine Gr.setCell ?_ (by first | omega | (simp; done) | (simp; omega)) _ | refine Gr.alloc ?_ _ | refine Gr.drew ?_ | refine Gr.drewN ?_ _ | with_reducible assumption | with_reducible exact Gr.refl _ | refine Gr.trans ?_ (by with_reducible assumption)))
set_option maxRecDepth 100000 in
theorem below_25 (w : World) :
    Calls Try.prog 36 #[.int .i64 25] w fun e w' => e = .returned (.agg #[.int .i64 (25 * 1000), .int .i64 1001]) ∧ Gr w w' := by
  go_enter Try.func36, Try.ntmps36
  go_wp2
  go_loop [3, 4, 6, 11] (fun n d _ i => ∃ k : Nat, k ≤ 3 ∧ i = .int .i64 k ∧ n = .int .i64 25000 ∧ d = .int .i64 1001) (fun _ _ _ i => 3 - (intOf i).toNat)
  case atStart => exact ⟨0, by omega, rfl, rfl, rfl⟩
  case round =>
    obtain ⟨k, hk, rfl, rfl, rfl⟩ := hrel
    rcases (show k = 0 ∨ k = 1 ∨ k = 2 ∨ k = 3 by omega) with rfl | rfl | rfl | rfl
    · go_wp2
      go_round
      case rel => exact ⟨0 + 1, by omega, rfl, rfl, rfl⟩
      case measure => simp [intOf]
    · go_wp2
      go_round
      case rel => exact ⟨1 + 1, by omega, rfl, rfl, rfl⟩
      case measure => simp [intOf]
    · go_wp2
      go_round
      case rel => exact ⟨2 + 1, by omega, rfl, rfl, rfl⟩
      case measure => simp [intOf]
    · go_wp2
      simp [bodyPost, results, Try.results36, go_sem]
      exact (by repeat (first | refine Gr.setCell ?_ (by first | omega | (simp; done) | (simp; omega)) _ | refine Gr.alloc ?_ _ | refine Gr.drew ?_ | refine Gr.drewN ?_ _ | with_reducible assumption | with_reducible exact Gr.refl _ | refine Gr.trans ?_ (by with_reducible assumption)))
set_option maxRecDepth 100000 in
theorem below_30 (w : World) :
    Calls Try.prog 36 #[.int .i64 30] w fun e w' => e = .returned (.agg #[.int .i64 (30 * 1000), .int .i64 1001]) ∧ Gr w w' := by
  go_enter Try.func36, Try.ntmps36
  go_wp2
  go_loop [3, 4, 6, 11] (fun n d _ i => ∃ k : Nat, k ≤ 3 ∧ i = .int .i64 k ∧ n = .int .i64 30000 ∧ d = .int .i64 1001) (fun _ _ _ i => 3 - (intOf i).toNat)
  case atStart => exact ⟨0, by omega, rfl, rfl, rfl⟩
  case round =>
    obtain ⟨k, hk, rfl, rfl, rfl⟩ := hrel
    rcases (show k = 0 ∨ k = 1 ∨ k = 2 ∨ k = 3 by omega) with rfl | rfl | rfl | rfl
    · go_wp2
      go_round
      case rel => exact ⟨0 + 1, by omega, rfl, rfl, rfl⟩
      case measure => simp [intOf]
    · go_wp2
      go_round
      case rel => exact ⟨1 + 1, by omega, rfl, rfl, rfl⟩
      case measure => simp [intOf]
    · go_wp2
      go_round
      case rel => exact ⟨2 + 1, by omega, rfl, rfl, rfl⟩
      case measure => simp [intOf]
    · go_wp2
      simp [bodyPost, results, Try.results36, go_sem]
      exact (by repeat (first | refine Gr.setCell ?_ (by first | omega | (simp; done) | (simp; omega)) _ | refine Gr.alloc ?_ _ | refine Gr.drew ?_ | refine Gr.drewN ?_ _ | with_reducible assumption | with_reducible exact Gr.refl _ | refine Gr.trans ?_ (by with_reducible assumption)))
set_option maxRecDepth 100000 in
theorem below_48 (w : World) :
    Calls Try.prog 36 #[.int .i64 48] w fun e w' => e = .returned (.agg #[.int .i64 (48 * 1000), .int .i64 1001]) ∧ Gr w w' := by
  go_enter Try.func36, Try.ntmps36
  go_wp2
  go_loop [3, 4, 6, 11] (fun n d _ i => ∃ k : Nat, k ≤ 3 ∧ i = .int .i64 k ∧ n = .int .i64 48000 ∧ d = .int .i64 1001) (fun _ _ _ i => 3 - (intOf i).toNat)
  case atStart => exact ⟨0, by omega, rfl, rfl, rfl⟩
  case round =>
    obtain ⟨k, hk, rfl, rfl, rfl⟩ := hrel
    rcases (show k = 0 ∨ k = 1 ∨ k = 2 ∨ k = 3 by omega) with rfl | rfl | rfl | rfl
    · go_wp2
      go_round
      case rel => exact ⟨0 + 1, by omega, rfl, rfl, rfl⟩
      case measure => simp [intOf]
    · go_wp2
      go_round
      case rel => exact ⟨1 + 1, by omega, rfl, rfl, rfl⟩
      case measure => simp [intOf]
    · go_wp2
      go_round
      case rel => exact ⟨2 + 1, by omega, rfl, rfl, rfl⟩
      case measure => simp [intOf]
    · go_wp2
      simp [bodyPost, results, Try.results36, go_sem]
      exact (by repeat (first | refine Gr.setCell ?_ (by first | omega | (simp; done) | (simp; omega)) _ | refine Gr.alloc ?_ _ | refine Gr.drew ?_ | refine Gr.drewN ?_ _ | with_reducible assumption | with_reducible exact Gr.refl _ | refine Gr.trans ?_ (by with_reducible assumption)))
set_option maxRecDepth 100000 in
theorem below_50 (w : World) :
    Calls Try.prog 36 #[.int .i64 50] w fun e w' => e = .returned (.agg #[.int .i64 (50 * 1000), .int .i64 1001]) ∧ Gr w w' := by
  go_enter Try.func36, Try.ntmps36
  go_wp2
  go_loop [3, 4, 6, 11] (fun n d _ i => ∃ k : Nat, k ≤ 3 ∧ i = .int .i64 k ∧ n = .int .i64 50000 ∧ d = .int .i64 1001) (fun _ _ _ i => 3 - (intOf i).toNat)
  case atStart => exact ⟨0, by omega, rfl, rfl, rfl⟩
  case round =>
    obtain ⟨k, hk, rfl, rfl, rfl⟩ := hrel
    rcases (show k = 0 ∨ k = 1 ∨ k = 2 ∨ k = 3 by omega) with rfl | rfl | rfl | rfl
    · go_wp2
      go_round
      case rel => exact ⟨0 + 1, by omega, rfl, rfl, rfl⟩
      case measure => simp [intOf]
    · go_wp2
      go_round
      case rel => exact ⟨1 + 1, by omega, rfl, rfl, rfl⟩
      case measure => simp [intOf]
    · go_wp2
      go_round
      case rel => exact ⟨2 + 1, by omega, rfl, rfl, rfl⟩
      case measure => simp [intOf]
    · go_wp2
      simp [bodyPost, results, Try.results36, go_sem]
      exact (by repeat (first | refine Gr.setCell ?_ (by first | omega | (simp; done) | (simp; omega)) _ | refine Gr.alloc ?_ _ | refine Gr.drew ?_ | refine Gr.drewN ?_ _ | with_reducible assumption | with_reducible exact Gr.refl _ | refine Gr.trans ?_ (by with_reducible assumption)))
set_option maxRecDepth 100000 in
theorem below_60 (w : World) :
    Calls Try.prog 36 #[.int .i64 60] w fun e w' => e = .returned (.agg #[.int .i64 (60 * 1000), .int .i64 1001]) ∧ Gr w w' := by
  go_enter Try.func36, Try.ntmps36
  go_wp2
  go_loop [3, 4, 6, 11] (fun n d _ i => ∃ k : Nat, k ≤ 3 ∧ i = .int .i64 k ∧ n = .int .i64 60000 ∧ d = .int .i64 1001) (fun _ _ _ i => 3 - (intOf i).toNat)
  case atStart => exact ⟨0, by omega, rfl, rfl, rfl⟩
  case round =>
    obtain ⟨k, hk, rfl, rfl, rfl⟩ := hrel
    rcases (show k = 0 ∨ k = 1 ∨ k = 2 ∨ k = 3 by omega) with rfl | rfl | rfl | rfl
    · go_wp2
      go_round
      case rel => exact ⟨0 + 1, by omega, rfl, rfl, rfl⟩
      case measure => simp [intOf]
    · go_wp2
      go_round
      case rel => exact ⟨1 + 1, by omega, rfl, rfl, rfl⟩
      case measure => simp [intOf]
    · go_wp2
      go_round
      case rel => exact ⟨2 + 1, by omega, rfl, rfl, rfl⟩
      case measure => simp [intOf]
    · go_wp2
      simp [bodyPost, results, Try.results36, go_sem]
      exact (by repeat (first | refine Gr.setCell ?_ (by first | omega | (simp; done) | (simp; omega)) _ | refine Gr.alloc ?_ _ | refine Gr.drew ?_ | refine Gr.drewN ?_ _ | with_reducible assumption | with_reducible exact Gr.refl _ | refine Gr.trans ?_ (by with_reducible assumption)))
theorem below_any (b : Int) (w : World) (h : isB b = true) :
    Calls Try.prog 36 #[.int .i64 b] w fun e w' => e = .returned (.agg #[.int .i64 (b * 1000), .int .i64 1001]) ∧ Gr w w' := by
  rcases isB_cases h with rfl | rfl | rfl | rfl | rfl | rfl
  · exact below_24 w
  · exact below_25 w
  · exact below_30 w
  · exact below_48 w
  · exact below_50 w
  · exact below_60 w

theorem known_b {b : Int} (hb : isB b = true) : 24 ≤ b ∧ b ≤ 60 := isB_bounds hb
set_option maxHeartbeats 4000000 in
theorem rbase_any (n d : Int) (w : World) (hn : I64 n) (hd : I64 d) :
    Calls Try.prog 18 #[.agg #[.int .i64 n, .int .i64 d]] w fun e w' => e = .returned (.tuple #[.int .i64 (bsV n d), .int .i64 (bsE n d)]) ∧ Gr w w' := by
  go_enter Try.func18, Try.ntmps18
  go_wp2
  go_loopw [4] (fun i wr => ∃ b : Int, 24 ≤ b ∧ b ≤ 61 ∧ i = .int .i64 b ∧ Hid (∀ c, isB c = true → c < b → ¬ mt n d c) ∧ Gr (w.alloc (.cells #[.int .i64 n, .int .i64 d] 23)) wr) (fun i _ => 61 - (intOf i).toNat)
  case atStart => exact ⟨24, by omega, by omega, rfl, (fun c hc hl => by have := isB_bounds hc; omega : ∀ c, isB c = true → c < 24 → ¬ mt n d c), Gr.refl _⟩
  case round =>
    obtain ⟨b, hb1, hb2, rfl, hno, hg⟩ := hrel
    obtain ⟨hc, hf⟩ := hg.cells
    have hz := hg.size
    simp at hz
    have hl : w.heap.size < wr.heap.size := by omega
    by_cases hend : b = 61
    · subst hend
      have hv := bs_none (n := n) (d := d) (fun c hc => hno.out c hc (by have := isB_bounds hc; omega))
      go_wp2
      simp [bodyPost, results, Try.results18, go_sem, hc, hf]
      exact ⟨⟨hv.1.symm, hv.2.symm⟩, (by repeat (first | refine Gr.setCell ?_ (by first | omega | (simp; done) | (simp; omega)) _ | refine Gr.alloc ?_ _ | refine Gr.drew ?_ | refine Gr.drewN ?_ _ | with_reducible assumption | with_reducible exact Gr.refl _ | refine Gr.trans ?_ (by with_reducible assumption)))⟩
    · by_cases hB : isB b = true
      · by_cases hm : mt n d b
        · clear hno
          have HB := Lib.hid (fun w => below_any b w hB)
          have hv := bs_match (b := b) hB hm
          have HK : Hid (∀ w, Calls Try.prog 35 #[.int .i64 b] w fun e w' => e = .returned (.bool true) ∧ w = w') := (fun w => (known_any b w).mono fun e w' h => by rw [hB] at h; exact h : ∀ w, Calls Try.prog 35 #[.int .i64 b] w fun e w' => e = .returned (.bool true) ∧ w = w')
          rcases hm with ⟨rfl, rfl⟩ | ⟨rfl, rfl⟩
          · go_wp2_with (go_at_call 35; refine (HK.out _).mono ?_; rintro e w' ⟨rfl, rfl⟩)
            refine wp_region_gr (by kernel_rfl) (by kernel_rfl) (fun hq1 hq2 => ?_)
            repeat (first | go_big_quiet_skip | (go_big_quiet_want; go_big_quiet_op; first | go_big_quiet_on | (apply Exists.intro; refine ⟨fun _ => ?_, ?_⟩; (· (fail)); go_big_quiet_on)))
            refine wpQuiet_nil ?_
            clear hq1 hq2
            rintro w1 ⟨⟨_, hg1⟩, rfl⟩
            obtain ⟨hc1, hf1⟩ := hg1.cells
            have hz1 := hg1.size
            (try simp at hz1); (try have hl1_0_0 : w.heap.size < w1.heap.size := by omega); (try have hm1_0_0 : w.heap.size ≤ w1.heap.size := by omega); (try have hl1_0_1 : w.heap.size + 1 < w1.heap.size := by omega); (try have hl1_0_2 : w.heap.size + 2 < w1.heap.size := by omega)
            go_wp2
            simp [bodyPost, results, Try.results18, go_sem, hc, hf]
            exact ⟨⟨hv.1.symm, hv.2.symm⟩, (by repeat (first | refine Gr.setCell ?_ (by first | omega | (simp; done) | (simp; omega)) _ | refine Gr.alloc ?_ _ | refine Gr.drew ?_ | refine Gr.drewN ?_ _ | with_reducible assumption | with_reducible exact Gr.refl _ | refine Gr.trans ?_ (by with_reducible assumption)))⟩
          · have hne : ¬ (b * 1000 = b) := by have := isB_bounds hB; omega
            go_wp2_with (go_at_call 35; refine (HK.out _).mono ?_; rintro e w' ⟨rfl, rfl⟩)
            refine wp_region_gr (by kernel_rfl) (by kernel_rfl) (fun hq1 hq2 => ?_)
            repeat (first | go_big_quiet_skip | (go_big_quiet_want; go_big_quiet_op; first | go_big_quiet_on | (apply Exists.intro; refine ⟨fun _ => ?_, ?_⟩; (· (exact gr_call (HB.out _))); go_big_quiet_on)))
            refine wpQuiet_nil ?_
            clear hq1 hq2
            rintro w1 ⟨⟨_, hg1⟩, rfl⟩
            obtain ⟨hc1, hf1⟩ := hg1.cells
            have hz1 := hg1.size
            (try simp at hz1); (try have hl1_0_0 : w.heap.size < w1.heap.size := by omega); (try have hm1_0_0 : w.heap.size ≤ w1.heap.size := by omega); (try have hl1_0_1 : w.heap.size + 1 < w1.heap.size := by omega); (try have hl1_0_2 : w.heap.size + 2 < w1.heap.size := by omega)
            go_wp2
            simp [bodyPost, results, Try.results18, go_sem, hc, hf]
            exact ⟨⟨hv.1.symm, hv.2.symm⟩, (by repeat (first | refine Gr.setCell ?_ (by first | omega | (simp; done) | (simp; omega)) _ | refine Gr.alloc ?_ _ | refine Gr.drew ?_ | refine Gr.drewN ?_ _ | with_reducible assumption | with_reducible exact Gr.refl _ | refine Gr.trans ?_ (by with_reducible assumption)))⟩
        · have HN : Hid (∀ c, isB c = true → c < b + 1 → ¬ mt n d c) := (fun c hc hl => (Decidable.em (c = b)).elim (fun e => by rw [e]; exact hm) (fun e => hno.out c hc (by omega)) : ∀ c, isB c = true → c < b + 1 → ¬ mt n d c)
          have HB := Lib.hid (fun w => below_any b w hB)
          have bb := isB_bounds hB
          have HK : Hid (∀ w, Calls Try.prog 35 #[.int .i64 b] w fun e w' => e = .returned (.bool true) ∧ w = w') := (fun w => (known_any b w).mono fun e w' h => by rw [hB] at h; exact h : ∀ w, Calls Try.prog 35 #[.int .i64 b] w fun e w' => e = .returned (.bool true) ∧ w = w')
          have q1 : ¬ (n = b ∧ d = 1) := fun x => hm (.inl x)
          have q2 : ¬ (n = b * 1000 ∧ d = 1001) := fun x => hm (.inr x)
          clear hno hm
          rcases (show (n = b ∧ ¬ d = 1) ∨ (n = b * 1000 ∧ ¬ d = 1001) ∨ (¬ n = b ∧ ¬ n = b * 1000) by omega) with ⟨rfl, h2⟩ | ⟨rfl, h2⟩ | ⟨h1, h2⟩
          · have h3 : ¬ n = n * 1000 := by omega
            have d1 : (d == 1) = false := by simpa using h2
            have d2 : (n == n * 1000) = false := by simpa using h3
            clear q1 q2 h2 h3
            go_wp2_with (go_at_call 35; refine (HK.out _).mono ?_; rintro e w' ⟨rfl, rfl⟩)
            refine wp_region_gr (by kernel_rfl) (by kernel_rfl) (fun hq1 hq2 => ?_)
            repeat (first | go_big_quiet_skip | (go_big_quiet_want; go_big_quiet_op; first | go_big_quiet_on | (apply Exists.intro; refine ⟨fun _ => ?_, ?_⟩; (· (exact gr_call (HB.out _))); go_big_quiet_on)))
            refine wpQuiet_nil ?_
            clear hq1 hq2
            rintro w1 ⟨⟨_, hg1⟩, rfl⟩
            obtain ⟨hc1, hf1⟩ := hg1.cells
            have hz1 := hg1.size
            (try simp at hz1); (try have hl1_0_0 : w.heap.size < w1.heap.size := by omega); (try have hm1_0_0 : w.heap.size ≤ w1.heap.size := by omega); (try have hl1_0_1 : w.heap.size + 1 < w1.heap.size := by omega); (try have hl1_0_2 : w.heap.size + 2 < w1.heap.size := by omega)
            go_wp2
            go_round
            case rel => exact ⟨n + 1, by omega, by omega, rfl, HN, (by repeat (first | refine Gr.setCell ?_ (by first | omega | (simp; done) | (simp; omega)) _ | refine Gr.alloc ?_ _ | refine Gr.drew ?_ | refine Gr.drewN ?_ _ | with_reducible assumption | with_reducible exact Gr.refl _ | refine Gr.trans ?_ (by with_reducible assumption)))⟩
            case measure => simp [intOf]; omega
          · have h3 : ¬ b * 1000 = b := by omega
            have d1 : (d == 1001) = false := by simpa using h2
            have d2 : (b * 1000 == b) = false := by simpa using h3
            clear q1 q2 h2 h3
            go_wp2_with (go_at_call 35; refine (HK.out _).mono ?_; rintro e w' ⟨rfl, rfl⟩)
            refine wp_region_gr (by kernel_rfl) (by kernel_rfl) (fun hq1 hq2 => ?_)
            repeat (first | go_big_quiet_skip | (go_big_quiet_want; go_big_quiet_op; first | go_big_quiet_on | (apply Exists.intro; refine ⟨fun _ => ?_, ?_⟩; (· (exact gr_call (HB.out _))); go_big_quiet_on)))
            refine wpQuiet_nil ?_
            clear hq1 hq2
            rintro w1 ⟨⟨_, hg1⟩, rfl⟩
            obtain ⟨hc1, hf1⟩ := hg1.cells
            have hz1 := hg1.size
            (try simp at hz1); (try have hl1_0_0 : w.heap.size < w1.heap.size := by omega); (try have hm1_0_0 : w.heap.size ≤ w1.heap.size := by omega); (try have hl1_0_1 : w.heap.size + 1 < w1.heap.size := by omega); (try have hl1_0_2 : w.heap.size + 2 < w1.heap.size := by omega)
            go_wp2
            go_round
            case rel => exact ⟨b + 1, by omega, by omega, rfl, HN, (by repeat (first | refine Gr.setCell ?_ (by first | omega | (simp; done) | (simp; omega)) _ | refine Gr.alloc ?_ _ | refine Gr.drew ?_ | refine Gr.drewN ?_ _ | with_reducible assumption | with_reducible exact Gr.refl _ | refine Gr.trans ?_ (by with_reducible assumption)))⟩
            case measure => simp [intOf]; omega
          · have d1 : (n == b) = false := by simpa using h1
            have d2 : (n == b * 1000) = false := by simpa using h2
            clear q1 q2 h1 h2
            go_wp2_with (go_at_call 35; refine (HK.out _).mono ?_; rintro e w' ⟨rfl, rfl⟩)
            refine wp_region_gr (by kernel_rfl) (by kernel_rfl) (fun hq1 hq2 => ?_)
            repeat (first | go_big_quiet_skip | (go_big_quiet_want; go_big_quiet_op; first | go_big_quiet_on | (apply Exists.intro; refine ⟨fun _ => ?_, ?_⟩; (· (exact gr_call (HB.out _))); go_big_quiet_on)))
            refine wpQuiet_nil ?_
            clear hq1 hq2
            rintro w1 ⟨⟨_, hg1⟩, rfl⟩
            obtain ⟨hc1, hf1⟩ := hg1.cells
            have hz1 := hg1.size
            (try simp at hz1); (try have hl1_0_0 : w.heap.size < w1.heap.size := by omega); (try have hm1_0_0 : w.heap.size ≤ w1.heap.size := by omega); (try have hl1_0_1 : w.heap.size + 1 < w1.heap.size := by omega); (try have hl1_0_2 : w.heap.size + 2 < w1.heap.size := by omega)
            go_wp2
            go_round
            case rel => exact ⟨b + 1, by omega, by omega, rfl, HN, (by repeat (first | refine Gr.setCell ?_ (by first | omega | (simp; done) | (simp; omega)) _ | refine Gr.alloc ?_ _ | refine Gr.drew ?_ | refine Gr.drewN ?_ _ | with_reducible assumption | with_reducible exact Gr.refl _ | refine Gr.trans ?_ (by with_reducible assumption)))⟩
            case measure => simp [intOf]; omega
      · have HN : Hid (∀ c, isB c = true → c < b + 1 → ¬ mt n d c) := (fun c hc hl => hno.out c hc (by have : c ≠ b := fun e => hB (e ▸ hc); omega) : ∀ c, isB c = true → c < b + 1 → ¬ mt n d c)
        clear hno
        have HK : Hid (∀ w, Calls Try.prog 35 #[.int .i64 b] w fun e w' => e = .returned (.bool false) ∧ w = w') := (fun w => (known_any b w).mono fun e w' h => by rw [show isB b = false by simpa using hB] at h; exact h : ∀ w, Calls Try.prog 35 #[.int .i64 b] w fun e w' => e = .returned (.bool false) ∧ w = w')
        go_wp2_with (go_at_call 35; refine (HK.out _).mono ?_; rintro e w' ⟨rfl, rfl⟩)
        go_round
        case rel => exact ⟨b + 1, by omega, by omega, rfl, HN, hg⟩
        case measure => simp [intOf]; omega
end Go.Proofs.Ytehdkoillpebgaa
