/-
  Walk of the law TimecodeBehind: it returns true.
  Conditions: none beyond the kinds of the arguments.
-/
import Derived.Test.YtehdkoillpebgaaLaw19E
namespace Go.Proofs.Ytehdkoillpebgaa
open Go.RowKit
set_option linter.unusedSimpArgs false
set_option linter.unusedVariables false

set_option maxHeartbeats 1000000 in
theorem lawBehind0 (n k : Int) (w : World) (hn : I64 n) (hk : I64 k) (hj : (k.tmod 6 + 6) % 6 = 0) :
    Calls Try.prog 16 #[.int .i64 n, .int .i64 k] w fun e w' => e = .returned (.bool true) ∧ Gr w w' := by
  obtain ⟨n1, n2⟩ := hn
  obtain ⟨k1, k2⟩ := hk
  obtain ⟨d1, d2, d3, d4, d5⟩ := day_rest (n := n) (show (0 : Int) < 2073600 by decide)
  have hY : dayN 24 false = 2073600 := by decide
  have ht := tmL_nodrop (n := n % 2073600) (b := 24) (by decide) d4 (by rw [hY]; exact d5)
  obtain ⟨A, B, g, X, Z, hX, hZ, z1, z2, x1, x2, g1, hA, hB, a1, a2, b1, b2, H, -⟩ := drift_both (n % 2073600) 24000 1001 24 false (by unfold I64; omega) (by unfold I64; omega) (by unfold I64; omega) (by decide +kernel) (by decide +kernel) (.inr ⟨rfl, rfl⟩) (by decide) d4 (by rw [hY]; exact d5)
  rw [ht] at hX
  have hp : A * 1000 * 24 = -(n % 2073600) * B := by
    have h1 := (low_eq (by omega) hA hB 24000 (-(n % 2073600))).1 (by rw [hX, hZ, Int.neg_mul]; omega)
    omega
  have r1 : 0 ≤ (n % 2073600) * B := Int.mul_nonneg d4 (by omega)
  have r2 : (n % 2073600) * B ≤ 2073600 * 4000000 := Int.mul_le_mul (by omega) b2 (by omega) (by decide)
  have r3 : -(n % 2073600) * B = -((n % 2073600) * B) := Int.neg_mul _ _
  have r4 : -20736000000000 ≤ -(n % 2073600) * B := by omega
  have r5 : -(n % 2073600) * B ≤ 0 := by omega
  have r6 : (n % 2073600) * B ≤ 20736000000000 := by omega
  have HB : Hid (∀ w, Calls Try.prog 17 #[.agg #[.int .i64 24000, .int .i64 1001]] w fun e w' => e = .returned (.tuple #[.int .i64 24, .int .i64 0]) ∧ Gr w w') := fun w => by
    have := base_any 24000 1001 w (by unfold I64; omega) (by unfold I64; omega)
    rw [show bsV 24000 1001 = 24 by decide +kernel, show bsE 24000 1001 = 0 by decide +kernel] at this
    exact this
  have HD : Hid (∀ w, Calls Try.prog 21 #[.int .i64 24, .bool false] w fun e w' => e = .returned (.tuple #[.int .i64 2073600, .int .i64 0]) ∧ w = w') := fun w => by
    have := day_yes 24 false w (by decide)
    rw [hY] at this
    exact this
  clear hX hZ z1 z2 x1 x2 hA hB hY ht r2 r3
  have H := Lib.hid H
  have D1 := Lib.hid d1
  have HP := Lib.hid hp
  obtain ⟨tb1, tb2⟩ := tmod_bounds (n := n) (show (0 : Int) < 2073600 by decide)
  obtain ⟨kb1, kb2⟩ := tmod_bounds (n := k) (show (0 : Int) < 6 by decide)
  clear hp d1
  generalize n % 2073600 = R at *
  have HJ := Lib.hid hj
  clear hj
  go_enter Try.func16, Try.ntmps16
  have D1 := D1.out
  have HJ := HJ.out
  have HP := HP.out
  go_wp2_with (first
    | (go_at_call 33; refine (H.out _).mono ?_; rintro e w1 ⟨rfl, hg1⟩; obtain ⟨hc1, hf1⟩ := hg1.cells; have hz1 := hg1.size; (try simp at hz1); (try have hl1_0_0 : w.heap.size < w1.heap.size := by omega); (try have hm1_0_0 : w.heap.size ≤ w1.heap.size := by omega); (try have hl1_0_1 : w.heap.size + 1 < w1.heap.size := by omega); (try have hl1_0_2 : w.heap.size + 2 < w1.heap.size := by omega))
    | (go_at_call 17; refine (HB.out _).mono ?_; rintro e w2 ⟨rfl, hg2⟩; obtain ⟨hc2, hf2⟩ := hg2.cells; have hz2 := hg2.size; (try simp at hz2); (try have hl2_0_0 : w.heap.size < w2.heap.size := by omega); (try have hm2_0_0 : w.heap.size ≤ w2.heap.size := by omega); (try have hl2_0_1 : w.heap.size + 1 < w2.heap.size := by omega); (try have hl2_0_2 : w.heap.size + 2 < w2.heap.size := by omega); (try have hl2_1_0 : w1.heap.size < w2.heap.size := by omega); (try have hm2_1_0 : w1.heap.size ≤ w2.heap.size := by omega); (try have hl2_1_1 : w1.heap.size + 1 < w2.heap.size := by omega); (try have hl2_1_2 : w1.heap.size + 2 < w2.heap.size := by omega))
    | (go_at_call 21; refine (HD.out _).mono ?_; rintro e w' ⟨rfl, rfl⟩)
    | (go_at_call 20; refine (awake_any _).mono ?_; rintro e w3 ⟨rfl, hg3⟩))
  go_ret
  exact ⟨ret_bool rfl, (by repeat (first | refine Gr.setCell ?_ (by first | omega | (simp; done) | (simp; omega)) _ | refine Gr.alloc ?_ _ | refine Gr.drew ?_ | refine Gr.drewN ?_ _ | with_reducible assumption | with_reducible exact Gr.refl _ | refine Gr.trans ?_ (by with_reducible assumption)))⟩
set_option maxHeartbeats 1000000 in
theorem lawBehind1 (n k : Int) (w : World) (hn : I64 n) (hk : I64 k) (hj : (k.tmod 6 + 6) % 6 = 1) :
    Calls Try.prog 16 #[.int .i64 n, .int .i64 k] w fun e w' => e = .returned (.bool true) ∧ Gr w w' := by
  obtain ⟨n1, n2⟩ := hn
  obtain ⟨k1, k2⟩ := hk
  obtain ⟨d1, d2, d3, d4, d5⟩ := day_rest (n := n) (show (0 : Int) < 2160000 by decide)
  have hY : dayN 25 false = 2160000 := by decide
  have ht := tmL_nodrop (n := n % 2160000) (b := 25) (by decide) d4 (by rw [hY]; exact d5)
  obtain ⟨A, B, g, X, Z, hX, hZ, z1, z2, x1, x2, g1, hA, hB, a1, a2, b1, b2, H, -⟩ := drift_both (n % 2160000) 25000 1001 25 false (by unfold I64; omega) (by unfold I64; omega) (by unfold I64; omega) (by decide +kernel) (by decide +kernel) (.inr ⟨rfl, rfl⟩) (by decide) d4 (by rw [hY]; exact d5)
  rw [ht] at hX
  have hp : A * 1000 * 25 = -(n % 2160000) * B := by
    have h1 := (low_eq (by omega) hA hB 25000 (-(n % 2160000))).1 (by rw [hX, hZ, Int.neg_mul]; omega)
    omega
  have r1 : 0 ≤ (n % 2160000) * B := Int.mul_nonneg d4 (by omega)
  have r2 : (n % 2160000) * B ≤ 2160000 * 4000000 := Int.mul_le_mul (by omega) b2 (by omega) (by decide)
  have r3 : -(n % 2160000) * B = -((n % 2160000) * B) := Int.neg_mul _ _
  have r4 : -20736000000000 ≤ -(n % 2160000) * B := by omega
  have r5 : -(n % 2160000) * B ≤ 0 := by omega
  have r6 : (n % 2160000) * B ≤ 20736000000000 := by omega
  have HB : Hid (∀ w, Calls Try.prog 17 #[.agg #[.int .i64 25000, .int .i64 1001]] w fun e w' => e = .returned (.tuple #[.int .i64 25, .int .i64 0]) ∧ Gr w w') := fun w => by
    have := base_any 25000 1001 w (by unfold I64; omega) (by unfold I64; omega)
    rw [show bsV 25000 1001 = 25 by decide +kernel, show bsE 25000 1001 = 0 by decide +kernel] at this
    exact this
  have HD : Hid (∀ w, Calls Try.prog 21 #[.int .i64 25, .bool false] w fun e w' => e = .returned (.tuple #[.int .i64 2160000, .int .i64 0]) ∧ w = w') := fun w => by
    have := day_yes 25 false w (by decide)
    rw [hY] at this
    exact this
  clear hX hZ z1 z2 x1 x2 hA hB hY ht r2 r3
  have H := Lib.hid H
  have D1 := Lib.hid d1
  have HP := Lib.hid hp
  obtain ⟨tb1, tb2⟩ := tmod_bounds (n := n) (show (0 : Int) < 2160000 by decide)
  obtain ⟨kb1, kb2⟩ := tmod_bounds (n := k) (show (0 : Int) < 6 by decide)
  clear hp d1
  generalize n % 2160000 = R at *
  have HJ := Lib.hid hj
  clear hj
  go_enter Try.func16, Try.ntmps16
  have D1 := D1.out
  have HJ := HJ.out
  have HP := HP.out
  go_wp2_with (first
    | (go_at_call 33; refine (H.out _).mono ?_; rintro e w1 ⟨rfl, hg1⟩; obtain ⟨hc1, hf1⟩ := hg1.cells; have hz1 := hg1.size; (try simp at hz1); (try have hl1_0_0 : w.heap.size < w1.heap.size := by omega); (try have hm1_0_0 : w.heap.size ≤ w1.heap.size := by omega); (try have hl1_0_1 : w.heap.size + 1 < w1.heap.size := by omega); (try have hl1_0_2 : w.heap.size + 2 < w1.heap.size := by omega))
    | (go_at_call 17; refine (HB.out _).mono ?_; rintro e w2 ⟨rfl, hg2⟩; obtain ⟨hc2, hf2⟩ := hg2.cells; have hz2 := hg2.size; (try simp at hz2); (try have hl2_0_0 : w.heap.size < w2.heap.size := by omega); (try have hm2_0_0 : w.heap.size ≤ w2.heap.size := by omega); (try have hl2_0_1 : w.heap.size + 1 < w2.heap.size := by omega); (try have hl2_0_2 : w.heap.size + 2 < w2.heap.size := by omega); (try have hl2_1_0 : w1.heap.size < w2.heap.size := by omega); (try have hm2_1_0 : w1.heap.size ≤ w2.heap.size := by omega); (try have hl2_1_1 : w1.heap.size + 1 < w2.heap.size := by omega); (try have hl2_1_2 : w1.heap.size + 2 < w2.heap.size := by omega))
    | (go_at_call 21; refine (HD.out _).mono ?_; rintro e w' ⟨rfl, rfl⟩)
    | (go_at_call 20; refine (awake_any _).mono ?_; rintro e w3 ⟨rfl, hg3⟩))
  go_ret
  exact ⟨ret_bool rfl, (by repeat (first | refine Gr.setCell ?_ (by first | omega | (simp; done) | (simp; omega)) _ | refine Gr.alloc ?_ _ | refine Gr.drew ?_ | refine Gr.drewN ?_ _ | with_reducible assumption | with_reducible exact Gr.refl _ | refine Gr.trans ?_ (by with_reducible assumption)))⟩
set_option maxHeartbeats 1000000 in
theorem lawBehind2 (n k : Int) (w : World) (hn : I64 n) (hk : I64 k) (hj : (k.tmod 6 + 6) % 6 = 2) :
    Calls Try.prog 16 #[.int .i64 n, .int .i64 k] w fun e w' => e = .returned (.bool true) ∧ Gr w w' := by
  obtain ⟨n1, n2⟩ := hn
  obtain ⟨k1, k2⟩ := hk
  obtain ⟨d1, d2, d3, d4, d5⟩ := day_rest (n := n) (show (0 : Int) < 2592000 by decide)
  have hY : dayN 30 false = 2592000 := by decide
  have ht := tmL_nodrop (n := n % 2592000) (b := 30) (by decide) d4 (by rw [hY]; exact d5)
  obtain ⟨A, B, g, X, Z, hX, hZ, z1, z2, x1, x2, g1, hA, hB, a1, a2, b1, b2, H, -⟩ := drift_both (n % 2592000) 30000 1001 30 false (by unfold I64; omega) (by unfold I64; omega) (by unfold I64; omega) (by decide +kernel) (by decide +kernel) (.inr ⟨rfl, rfl⟩) (by decide) d4 (by rw [hY]; exact d5)
  rw [ht] at hX
  have hp : A * 1000 * 30 = -(n % 2592000) * B := by
    have h1 := (low_eq (by omega) hA hB 30000 (-(n % 2592000))).1 (by rw [hX, hZ, Int.neg_mul]; omega)
    omega
  have r1 : 0 ≤ (n % 2592000) * B := Int.mul_nonneg d4 (by omega)
  have r2 : (n % 2592000) * B ≤ 2592000 * 4000000 := Int.mul_le_mul (by omega) b2 (by omega) (by decide)
  have r3 : -(n % 2592000) * B = -((n % 2592000) * B) := Int.neg_mul _ _
  have r4 : -20736000000000 ≤ -(n % 2592000) * B := by omega
  have r5 : -(n % 2592000) * B ≤ 0 := by omega
  have r6 : (n % 2592000) * B ≤ 20736000000000 := by omega
  have HB : Hid (∀ w, Calls Try.prog 17 #[.agg #[.int .i64 30000, .int .i64 1001]] w fun e w' => e = .returned (.tuple #[.int .i64 30, .int .i64 0]) ∧ Gr w w') := fun w => by
    have := base_any 30000 1001 w (by unfold I64; omega) (by unfold I64; omega)
    rw [show bsV 30000 1001 = 30 by decide +kernel, show bsE 30000 1001 = 0 by decide +kernel] at this
    exact this
  have HD : Hid (∀ w, Calls Try.prog 21 #[.int .i64 30, .bool false] w fun e w' => e = .returned (.tuple #[.int .i64 2592000, .int .i64 0]) ∧ w = w') := fun w => by
    have := day_yes 30 false w (by decide)
    rw [hY] at this
    exact this
  clear hX hZ z1 z2 x1 x2 hA hB hY ht r2 r3
  have H := Lib.hid H
  have D1 := Lib.hid d1
  have HP := Lib.hid hp
  obtain ⟨tb1, tb2⟩ := tmod_bounds (n := n) (show (0 : Int) < 2592000 by decide)
  obtain ⟨kb1, kb2⟩ := tmod_bounds (n := k) (show (0 : Int) < 6 by decide)
  clear hp d1
  generalize n % 2592000 = R at *
  have HJ := Lib.hid hj
  clear hj
  go_enter Try.func16, Try.ntmps16
  have D1 := D1.out
  have HJ := HJ.out
  have HP := HP.out
  go_wp2_with (first
    | (go_at_call 33; refine (H.out _).mono ?_; rintro e w1 ⟨rfl, hg1⟩; obtain ⟨hc1, hf1⟩ := hg1.cells; have hz1 := hg1.size; (try simp at hz1); (try have hl1_0_0 : w.heap.size < w1.heap.size := by omega); (try have hm1_0_0 : w.heap.size ≤ w1.heap.size := by omega); (try have hl1_0_1 : w.heap.size + 1 < w1.heap.size := by omega); (try have hl1_0_2 : w.heap.size + 2 < w1.heap.size := by omega))
    | (go_at_call 17; refine (HB.out _).mono ?_; rintro e w2 ⟨rfl, hg2⟩; obtain ⟨hc2, hf2⟩ := hg2.cells; have hz2 := hg2.size; (try simp at hz2); (try have hl2_0_0 : w.heap.size < w2.heap.size := by omega); (try have hm2_0_0 : w.heap.size ≤ w2.heap.size := by omega); (try have hl2_0_1 : w.heap.size + 1 < w2.heap.size := by omega); (try have hl2_0_2 : w.heap.size + 2 < w2.heap.size := by omega); (try have hl2_1_0 : w1.heap.size < w2.heap.size := by omega); (try have hm2_1_0 : w1.heap.size ≤ w2.heap.size := by omega); (try have hl2_1_1 : w1.heap.size + 1 < w2.heap.size := by omega); (try have hl2_1_2 : w1.heap.size + 2 < w2.heap.size := by omega))
    | (go_at_call 21; refine (HD.out _).mono ?_; rintro e w' ⟨rfl, rfl⟩)
    | (go_at_call 20; refine (awake_any _).mono ?_; rintro e w3 ⟨rfl, hg3⟩))
  go_ret
  exact ⟨ret_bool rfl, (by repeat (first | refine Gr.setCell ?_ (by first | omega | (simp; done) | (simp; omega)) _ | refine Gr.alloc ?_ _ | refine Gr.drew ?_ | refine Gr.drewN ?_ _ | with_reducible assumption | with_reducible exact Gr.refl _ | refine Gr.trans ?_ (by with_reducible assumption)))⟩
set_option maxHeartbeats 1000000 in
theorem lawBehind3 (n k : Int) (w : World) (hn : I64 n) (hk : I64 k) (hj : (k.tmod 6 + 6) % 6 = 3) :
    Calls Try.prog 16 #[.int .i64 n, .int .i64 k] w fun e w' => e = .returned (.bool true) ∧ Gr w w' := by
  obtain ⟨n1, n2⟩ := hn
  obtain ⟨k1, k2⟩ := hk
  obtain ⟨d1, d2, d3, d4, d5⟩ := day_rest (n := n) (show (0 : Int) < 4147200 by decide)
  have hY : dayN 48 false = 4147200 := by decide
  have ht := tmL_nodrop (n := n % 4147200) (b := 48) (by decide) d4 (by rw [hY]; exact d5)
  obtain ⟨A, B, g, X, Z, hX, hZ, z1, z2, x1, x2, g1, hA, hB, a1, a2, b1, b2, H, -⟩ := drift_both (n % 4147200) 48000 1001 48 false (by unfold I64; omega) (by unfold I64; omega) (by unfold I64; omega) (by decide +kernel) (by decide +kernel) (.inr ⟨rfl, rfl⟩) (by decide) d4 (by rw [hY]; exact d5)
  rw [ht] at hX
  have hp : A * 1000 * 48 = -(n % 4147200) * B := by
    have h1 := (low_eq (by omega) hA hB 48000 (-(n % 4147200))).1 (by rw [hX, hZ, Int.neg_mul]; omega)
    omega
  have r1 : 0 ≤ (n % 4147200) * B := Int.mul_nonneg d4 (by omega)
  have r2 : (n % 4147200) * B ≤ 4147200 * 4000000 := Int.mul_le_mul (by omega) b2 (by omega) (by decide)
  have r3 : -(n % 4147200) * B = -((n % 4147200) * B) := Int.neg_mul _ _
  have r4 : -20736000000000 ≤ -(n % 4147200) * B := by omega
  have r5 : -(n % 4147200) * B ≤ 0 := by omega
  have r6 : (n % 4147200) * B ≤ 20736000000000 := by omega
  have HB : Hid (∀ w, Calls Try.prog 17 #[.agg #[.int .i64 48000, .int .i64 1001]] w fun e w' => e = .returned (.tuple #[.int .i64 48, .int .i64 0]) ∧ Gr w w') := fun w => by
    have := base_any 48000 1001 w (by unfold I64; omega) (by unfold I64; omega)
    rw [show bsV 48000 1001 = 48 by decide +kernel, show bsE 48000 1001 = 0 by decide +kernel] at this
    exact this
  have HD : Hid (∀ w, Calls Try.prog 21 #[.int .i64 48, .bool false] w fun e w' => e = .returned (.tuple #[.int .i64 4147200, .int .i64 0]) ∧ w = w') := fun w => by
    have := day_yes 48 false w (by decide)
    rw [hY] at this
    exact this
  clear hX hZ z1 z2 x1 x2 hA hB hY ht r2 r3
  have H := Lib.hid H
  have D1 := Lib.hid d1
  have HP := Lib.hid hp
  obtain ⟨tb1, tb2⟩ := tmod_bounds (n := n) (show (0 : Int) < 4147200 by decide)
  obtain ⟨kb1, kb2⟩ := tmod_bounds (n := k) (show (0 : Int) < 6 by decide)
  clear hp d1
  generalize n % 4147200 = R at *
  have HJ := Lib.hid hj
  clear hj
  go_enter Try.func16, Try.ntmps16
  have D1 := D1.out
  have HJ := HJ.out
  have HP := HP.out
  go_wp2_with (first
    | (go_at_call 33; refine (H.out _).mono ?_; rintro e w1 ⟨rfl, hg1⟩; obtain ⟨hc1, hf1⟩ := hg1.cells; have hz1 := hg1.size; (try simp at hz1); (try have hl1_0_0 : w.heap.size < w1.heap.size := by omega); (try have hm1_0_0 : w.heap.size ≤ w1.heap.size := by omega); (try have hl1_0_1 : w.heap.size + 1 < w1.heap.size := by omega); (try have hl1_0_2 : w.heap.size + 2 < w1.heap.size := by omega))
    | (go_at_call 17; refine (HB.out _).mono ?_; rintro e w2 ⟨rfl, hg2⟩; obtain ⟨hc2, hf2⟩ := hg2.cells; have hz2 := hg2.size; (try simp at hz2); (try have hl2_0_0 : w.heap.size < w2.heap.size := by omega); (try have hm2_0_0 : w.heap.size ≤ w2.heap.size := by omega); (try have hl2_0_1 : w.heap.size + 1 < w2.heap.size := by omega); (try have hl2_0_2 : w.heap.size + 2 < w2.heap.size := by omega); (try have hl2_1_0 : w1.heap.size < w2.heap.size := by omega); (try have hm2_1_0 : w1.heap.size ≤ w2.heap.size := by omega); (try have hl2_1_1 : w1.heap.size + 1 < w2.heap.size := by omega); (try have hl2_1_2 : w1.heap.size + 2 < w2.heap.size := by omega))
    | (go_at_call 21; refine (HD.out _).mono ?_; rintro e w' ⟨rfl, rfl⟩)
    | (go_at_call 20; refine (awake_any _).mono ?_; rintro e w3 ⟨rfl, hg3⟩))
  go_ret
  exact ⟨ret_bool rfl, (by repeat (first | refine Gr.setCell ?_ (by first | omega | (simp; done) | (simp; omega)) _ | refine Gr.alloc ?_ _ | refine Gr.drew ?_ | refine Gr.drewN ?_ _ | with_reducible assumption | with_reducible exact Gr.refl _ | refine Gr.trans ?_ (by with_reducible assumption)))⟩
set_option maxHeartbeats 1000000 in
theorem lawBehind4 (n k : Int) (w : World) (hn : I64 n) (hk : I64 k) (hj : (k.tmod 6 + 6) % 6 = 4) :
    Calls Try.prog 16 #[.int .i64 n, .int .i64 k] w fun e w' => e = .returned (.bool true) ∧ Gr w w' := by
  obtain ⟨n1, n2⟩ := hn
  obtain ⟨k1, k2⟩ := hk
  obtain ⟨d1, d2, d3, d4, d5⟩ := day_rest (n := n) (show (0 : Int) < 4320000 by decide)
  have hY : dayN 50 false = 4320000 := by decide
  have ht := tmL_nodrop (n := n % 4320000) (b := 50) (by decide) d4 (by rw [hY]; exact d5)
  obtain ⟨A, B, g, X, Z, hX, hZ, z1, z2, x1, x2, g1, hA, hB, a1, a2, b1, b2, H, -⟩ := drift_both (n % 4320000) 50000 1001 50 false (by unfold I64; omega) (by unfold I64; omega) (by unfold I64; omega) (by decide +kernel) (by decide +kernel) (.inr ⟨rfl, rfl⟩) (by decide) d4 (by rw [hY]; exact d5)
  rw [ht] at hX
  have hp : A * 1000 * 50 = -(n % 4320000) * B := by
    have h1 := (low_eq (by omega) hA hB 50000 (-(n % 4320000))).1 (by rw [hX, hZ, Int.neg_mul]; omega)
    omega
  have r1 : 0 ≤ (n % 4320000) * B := Int.mul_nonneg d4 (by omega)
  have r2 : (n % 4320000) * B ≤ 4320000 * 4000000 := Int.mul_le_mul (by omega) b2 (by omega) (by decide)
  have r3 : -(n % 4320000) * B = -((n % 4320000) * B) := Int.neg_mul _ _
  have r4 : -20736000000000 ≤ -(n % 4320000) * B := by omega
  have r5 : -(n % 4320000) * B ≤ 0 := by omega
  have r6 : (n % 4320000) * B ≤ 20736000000000 := by omega
  have HB : Hid (∀ w, Calls Try.prog 17 #[.agg #[.int .i64 50000, .int .i64 1001]] w fun e w' => e = .returned (.tuple #[.int .i64 50, .int .i64 0]) ∧ Gr w w') := fun w => by
    have := base_any 50000 1001 w (by unfold I64; omega) (by unfold I64; omega)
    rw [show bsV 50000 1001 = 50 by decide +kernel, show bsE 50000 1001 = 0 by decide +kernel] at this
    exact this
  have HD : Hid (∀ w, Calls Try.prog 21 #[.int .i64 50, .bool false] w fun e w' => e = .returned (.tuple #[.int .i64 4320000, .int .i64 0]) ∧ w = w') := fun w => by
    have := day_yes 50 false w (by decide)
    rw [hY] at this
    exact this
  clear hX hZ z1 z2 x1 x2 hA hB hY ht r2 r3
  have H := Lib.hid H
  have D1 := Lib.hid d1
  have HP := Lib.hid hp
  obtain ⟨tb1, tb2⟩ := tmod_bounds (n := n) (show (0 : Int) < 4320000 by decide)
  obtain ⟨kb1, kb2⟩ := tmod_bounds (n := k) (show (0 : Int) < 6 by decide)
  clear hp d1
  generalize n % 4320000 = R at *
  have HJ := Lib.hid hj
  clear hj
  go_enter Try.func16, Try.ntmps16
  have D1 := D1.out
  have HJ := HJ.out
  have HP := HP.out
  go_wp2_with (first
    | (go_at_call 33; refine (H.out _).mono ?_; rintro e w1 ⟨rfl, hg1⟩; obtain ⟨hc1, hf1⟩ := hg1.cells; have hz1 := hg1.size; (try simp at hz1); (try have hl1_0_0 : w.heap.size < w1.heap.size := by omega); (try have hm1_0_0 : w.heap.size ≤ w1.heap.size := by omega); (try have hl1_0_1 : w.heap.size + 1 < w1.heap.size := by omega); (try have hl1_0_2 : w.heap.size + 2 < w1.heap.size := by omega))
    | (go_at_call 17; refine (HB.out _).mono ?_; rintro e w2 ⟨rfl, hg2⟩; obtain ⟨hc2, hf2⟩ := hg2.cells; have hz2 := hg2.size; (try simp at hz2); (try have hl2_0_0 : w.heap.size < w2.heap.size := by omega); (try have hm2_0_0 : w.heap.size ≤ w2.heap.size := by omega); (try have hl2_0_1 : w.heap.size + 1 < w2.heap.size := by omega); (try have hl2_0_2 : w.heap.size + 2 < w2.heap.size := by omega); (try have hl2_1_0 : w1.heap.size < w2.heap.size := by omega); (try have hm2_1_0 : w1.heap.size ≤ w2.heap.size := by omega); (try have hl2_1_1 : w1.heap.size + 1 < w2.heap.size := by omega); (try have hl2_1_2 : w1.heap.size + 2 < w2.heap.size := by omega))
    | (go_at_call 21; refine (HD.out _).mono ?_; rintro e w' ⟨rfl, rfl⟩)
    | (go_at_call 20; refine (awake_any _).mono ?_; rintro e w3 ⟨rfl, hg3⟩))
  go_ret
  exact ⟨ret_bool rfl, (by repeat (first | refine Gr.setCell ?_ (by first | omega | (simp; done) | (simp; omega)) _ | refine Gr.alloc ?_ _ | refine Gr.drew ?_ | refine Gr.drewN ?_ _ | with_reducible assumption | with_reducible exact Gr.refl _ | refine Gr.trans ?_ (by with_reducible assumption)))⟩
set_option maxHeartbeats 1000000 in
theorem lawBehind5 (n k : Int) (w : World) (hn : I64 n) (hk : I64 k) (hj : (k.tmod 6 + 6) % 6 = 5) :
    Calls Try.prog 16 #[.int .i64 n, .int .i64 k] w fun e w' => e = .returned (.bool true) ∧ Gr w w' := by
  obtain ⟨n1, n2⟩ := hn
  obtain ⟨k1, k2⟩ := hk
  obtain ⟨d1, d2, d3, d4, d5⟩ := day_rest (n := n) (show (0 : Int) < 5184000 by decide)
  have hY : dayN 60 false = 5184000 := by decide
  have ht := tmL_nodrop (n := n % 5184000) (b := 60) (by decide) d4 (by rw [hY]; exact d5)
  obtain ⟨A, B, g, X, Z, hX, hZ, z1, z2, x1, x2, g1, hA, hB, a1, a2, b1, b2, H, -⟩ := drift_both (n % 5184000) 60000 1001 60 false (by unfold I64; omega) (by unfold I64; omega) (by unfold I64; omega) (by decide +kernel) (by decide +kernel) (.inr ⟨rfl, rfl⟩) (by decide) d4 (by rw [hY]; exact d5)
  rw [ht] at hX
  have hp : A * 1000 * 60 = -(n % 5184000) * B := by
    have h1 := (low_eq (by omega) hA hB 60000 (-(n % 5184000))).1 (by rw [hX, hZ, Int.neg_mul]; omega)
    omega
  have r1 : 0 ≤ (n % 5184000) * B := Int.mul_nonneg d4 (by omega)
  have r2 : (n % 5184000) * B ≤ 5184000 * 4000000 := Int.mul_le_mul (by omega) b2 (by omega) (by decide)
  have r3 : -(n % 5184000) * B = -((n % 5184000) * B) := Int.neg_mul _ _
  have r4 : -20736000000000 ≤ -(n % 5184000) * B := by omega
  have r5 : -(n % 5184000) * B ≤ 0 := by omega
  have r6 : (n % 5184000) * B ≤ 20736000000000 := by omega
  have HB : Hid (∀ w, Calls Try.prog 17 #[.agg #[.int .i64 60000, .int .i64 1001]] w fun e w' => e = .returned (.tuple #[.int .i64 60, .int .i64 0]) ∧ Gr w w') := fun w => by
    have := base_any 60000 1001 w (by unfold I64; omega) (by unfold I64; omega)
    rw [show bsV 60000 1001 = 60 by decide +kernel, show bsE 60000 1001 = 0 by decide +kernel] at this
    exact this
  have HD : Hid (∀ w, Calls Try.prog 21 #[.int .i64 60, .bool false] w fun e w' => e = .returned (.tuple #[.int .i64 5184000, .int .i64 0]) ∧ w = w') := fun w => by
    have := day_yes 60 false w (by decide)
    rw [hY] at this
    exact this
  clear hX hZ z1 z2 x1 x2 hA hB hY ht r2 r3
  have H := Lib.hid H
  have D1 := Lib.hid d1
  have HP := Lib.hid hp
  obtain ⟨tb1, tb2⟩ := tmod_bounds (n := n) (show (0 : Int) < 5184000 by decide)
  obtain ⟨kb1, kb2⟩ := tmod_bounds (n := k) (show (0 : Int) < 6 by decide)
  clear hp d1
  generalize n % 5184000 = R at *
  have HJ := Lib.hid hj
  clear hj
  go_enter Try.func16, Try.ntmps16
  have D1 := D1.out
  have HJ := HJ.out
  have HP := HP.out
  go_wp2_with (first
    | (go_at_call 33; refine (H.out _).mono ?_; rintro e w1 ⟨rfl, hg1⟩; obtain ⟨hc1, hf1⟩ := hg1.cells; have hz1 := hg1.size; (try simp at hz1); (try have hl1_0_0 : w.heap.size < w1.heap.size := by omega); (try have hm1_0_0 : w.heap.size ≤ w1.heap.size := by omega); (try have hl1_0_1 : w.heap.size + 1 < w1.heap.size := by omega); (try have hl1_0_2 : w.heap.size + 2 < w1.heap.size := by omega))
    | (go_at_call 17; refine (HB.out _).mono ?_; rintro e w2 ⟨rfl, hg2⟩; obtain ⟨hc2, hf2⟩ := hg2.cells; have hz2 := hg2.size; (try simp at hz2); (try have hl2_0_0 : w.heap.size < w2.heap.size := by omega); (try have hm2_0_0 : w.heap.size ≤ w2.heap.size := by omega); (try have hl2_0_1 : w.heap.size + 1 < w2.heap.size := by omega); (try have hl2_0_2 : w.heap.size + 2 < w2.heap.size := by omega); (try have hl2_1_0 : w1.heap.size < w2.heap.size := by omega); (try have hm2_1_0 : w1.heap.size ≤ w2.heap.size := by omega); (try have hl2_1_1 : w1.heap.size + 1 < w2.heap.size := by omega); (try have hl2_1_2 : w1.heap.size + 2 < w2.heap.size := by omega))
    | (go_at_call 21; refine (HD.out _).mono ?_; rintro e w' ⟨rfl, rfl⟩)
    | (go_at_call 20; refine (awake_any _).mono ?_; rintro e w3 ⟨rfl, hg3⟩))
  go_ret
  exact ⟨ret_bool rfl, (by repeat (first | refine Gr.setCell ?_ (by first | omega | (simp; done) | (simp; omega)) _ | refine Gr.alloc ?_ _ | refine Gr.drew ?_ | refine Gr.drewN ?_ _ | with_reducible assumption | with_reducible exact Gr.refl _ | refine Gr.trans ?_ (by with_reducible assumption)))⟩
theorem lawBehind_walk (n k : Int) (w : World) (hn : I64 n) (hk : I64 k) :
    Calls Try.prog 16 #[.int .i64 n, .int .i64 k] w fun e w' => e = .returned (.bool true) ∧ Gr w w' := by
  rcases (show (k.tmod 6 + 6) % 6 = 0 ∨ (k.tmod 6 + 6) % 6 = 1 ∨ (k.tmod 6 + 6) % 6 = 2 ∨ (k.tmod 6 + 6) % 6 = 3 ∨ (k.tmod 6 + 6) % 6 = 4 ∨ (k.tmod 6 + 6) % 6 = 5 by omega) with h | h | h | h | h | h
  · exact lawBehind0 n k w hn hk h
  · exact lawBehind1 n k w hn hk h
  · exact lawBehind2 n k w hn hk h
  · exact lawBehind3 n k w hn hk h
  · exact lawBehind4 n k w hn hk h
  · exact lawBehind5 n k w hn hk h
end Go.Proofs.Ytehdkoillpebgaa
