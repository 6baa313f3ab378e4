/-
  Contract of Mul of package rational, out of its parts.
  Conditions: the arguments are integers of their kinds.
-/
import Derived.Test.YtclfiaemjdflbaaWalkR
namespace Go.Proofs.Ytclfiaemjdflbaa
open Go.RowKit
set_option linter.unusedSimpArgs false
set_option linter.unusedVariables false

theorem quot_in {n g : Int} (hg : 1 ≤ g) (h1 : -9223372036854775808 ≤ n) (h2 : n ≤ 9223372036854775807) : -9223372036854775808 ≤ n / g ∧ n / g ≤ 9223372036854775807 := by
  constructor
  · apply Int.le_ediv_of_mul_le (by omega)
    have : -9223372036854775808 * g ≤ -9223372036854775808 * 1 := Int.mul_le_mul_of_nonpos_left (by omega) (by omega)
    omega
  · apply Int.le_of_lt_add_one
    apply Int.ediv_lt_of_lt_mul (by omega)
    have : (9223372036854775807 + 1) * 1 ≤ (9223372036854775807 + 1) * g := Int.mul_le_mul_of_nonneg_left (by omega) (by omega)
    omega

set_option maxRecDepth 100000 in
set_option maxHeartbeats 8000000 in
theorem mul_core_yes (an ad bn bd g h α β γ δ v Q r D FN FD FE : Int) (w : World) (a1 : 1 ≤ ad) (a2 : ad ≤ 9223372036854775807) (b1 : 1 ≤ bd) (b2 : bd ≤ 9223372036854775807) (an1 : I64 an) (bn1 : I64 bn)
    (g1 : 1 ≤ g) (g2 : g ≤ 9223372036854775807) (h1 : 1 ≤ h) (h2 : h ≤ 9223372036854775807) (hα : an.tdiv g = α) (hα' : an / g = α) (hγ : bn.tdiv h = γ) (hγ' : bn / h = γ) (hβ : bd / g = β) (hδ : ad / h = δ)
    (HA : ∀ w, Calls Try.prog 15 #[.agg #[.int .i64 an, .int .i64 ad]] w fun e w' => e = .returned (.bool true) ∧ Gr w w')
    (HB : ∀ w, Calls Try.prog 15 #[.agg #[.int .i64 bn, .int .i64 bd]] w fun e w' => e = .returned (.bool true) ∧ Gr w w')
    (HG : ∀ w, Calls Try.prog 37 #[.int .u64 (mg an), .int .u64 bd] w fun e w' => e = .returned (.int .u64 g) ∧ Gr w w')
    (HH : ∀ w, Calls Try.prog 37 #[.int .u64 (mg bn), .int .u64 ad] w fun e w' => e = .returned (.int .u64 h) ∧ Gr w w')
    (HP : ∀ w, Calls Try.prog 41 #[.int .i64 α, .int .i64 γ] w fun e w' => e = .returned (.agg #[.bool (wN v), .int .u64 (wH v), .int .u64 (wL v)]) ∧ Gr w w')
    (HD : ∀ w, Calls Try.prog 42 #[.agg #[.bool (wN v), .int .u64 (wH v), .int .u64 (wL v)], .int .u64 1] w fun e w' => e = .returned (.tuple #[.int .i64 Q, .int .u64 r, .bool true]) ∧ Gr w w')
    (HPD : ∀ w, Calls Try.prog 41 #[.int .i64 δ, .int .i64 β] w fun e w' => e = .returned (.agg #[.bool (wN D), .int .u64 (wH D), .int .u64 (wL D)]) ∧ Gr w w')
    (HF : ∀ w, Calls Try.prog 54 #[.int .i64 Q, .agg #[.bool (wN D), .int .u64 (wH D), .int .u64 (wL D)]] w fun e w' => e = .returned (.tuple #[.agg #[.int .i64 FN, .int .i64 FD], .int .i64 FE]) ∧ Gr w w') :
    Calls Try.prog 34 #[.agg #[.int .i64 an, .int .i64 ad], .agg #[.int .i64 bn, .int .i64 bd]] w fun e w' => e = .returned (.tuple #[.agg #[.int .i64 FN, .int .i64 FD], .int .i64 FE]) ∧ Gr w w' := by
  have HA := Lib.hid HA
  have HB := Lib.hid HB
  have HG := Lib.hid HG
  have HH := Lib.hid HH
  have HP := Lib.hid HP
  have HD := Lib.hid HD
  have HPD := Lib.hid HPD
  have HF := Lib.hid HF
  have HX := Lib.hid (fun w => magnitude_any an w an1.1 an1.2)
  have HY := Lib.hid (fun w => magnitude_any bn w bn1.1 bn1.2)
  obtain ⟨an1, an2⟩ := an1
  obtain ⟨bn1, bn2⟩ := bn1
  have gz : (g == 0) = false := by simp; omega
  have hz : (h == 0) = false := by simp; omega
  have qa := quot_in g1 an1 an2
  have qb := quot_in h1 bn1 bn2
  rw [hα'] at qa
  rw [hγ'] at qb
  obtain ⟨qa1, qa2⟩ := qa
  obtain ⟨qb1, qb2⟩ := qb
  have wα : IntKind.i64.wrap (an.tdiv g) = α := by rw [hα]; exact IntWalk.i64_in _ (by omega)
  have wγ : IntKind.i64.wrap (bn.tdiv h) = γ := by rw [hγ]; exact IntWalk.i64_in _ (by omega)
  have ma := mg_nonneg an
  have mb := mg_nonneg bn
  go_enter Try.func34, Try.ntmps34
  go_wp2_with (first
    | (go_at_call 15; with_reducible refine (HA.out _).mono ?_; rintro e w1 ⟨rfl, hg1⟩; obtain ⟨hc1, hf1⟩ := hg1.cells; have hz1 := hg1.size; (try simp at hz1); (try have hl1_0_0 : w.heap.size < w1.heap.size := by omega); (try have hm1_0_0 : w.heap.size ≤ w1.heap.size := by omega); (try have hl1_0_1 : w.heap.size + 1 < w1.heap.size := by omega); (try have hl1_0_2 : w.heap.size + 2 < w1.heap.size := by omega))
    | (go_at_call 15; with_reducible refine (HB.out _).mono ?_; rintro e w2 ⟨rfl, hg2⟩; obtain ⟨hc2, hf2⟩ := hg2.cells; have hz2 := hg2.size; (try simp at hz2); (try have hl2_0_0 : w.heap.size < w2.heap.size := by omega); (try have hm2_0_0 : w.heap.size ≤ w2.heap.size := by omega); (try have hl2_0_1 : w.heap.size + 1 < w2.heap.size := by omega); (try have hl2_0_2 : w.heap.size + 2 < w2.heap.size := by omega); (try have hl2_1_0 : w1.heap.size < w2.heap.size := by omega); (try have hm2_1_0 : w1.heap.size ≤ w2.heap.size := by omega); (try have hl2_1_1 : w1.heap.size + 1 < w2.heap.size := by omega); (try have hl2_1_2 : w1.heap.size + 2 < w2.heap.size := by omega)))
  refine wp_region_gr (by kernel_rfl) (by kernel_rfl) (fun hq1 hq2 => ?_)
  repeat (first | go_big_quiet_skip | (go_big_quiet_want; go_big_quiet_op; first | go_big_quiet_on | (apply Exists.intro; refine ⟨fun _ => ?_, ?_⟩; (· (first | (go_at_call 36; exact gr_call_same (HX.out _)) | (go_at_call 37; exact gr_call (HG.out _)))); go_big_quiet_on)))
  refine wpQuiet_nil ?_
  clear hq1 hq2
  rintro w3 ⟨⟨_, hg3⟩, rfl⟩
  obtain ⟨hc3, hf3⟩ := hg3.cells
  have hz3 := hg3.size
  (try simp at hz3); (try have hl3_0_0 : w.heap.size < w3.heap.size := by omega); (try have hm3_0_0 : w.heap.size ≤ w3.heap.size := by omega); (try have hl3_0_1 : w.heap.size + 1 < w3.heap.size := by omega); (try have hl3_0_2 : w.heap.size + 2 < w3.heap.size := by omega); (try have hl3_1_0 : w1.heap.size < w3.heap.size := by omega); (try have hm3_1_0 : w1.heap.size ≤ w3.heap.size := by omega); (try have hl3_1_1 : w1.heap.size + 1 < w3.heap.size := by omega); (try have hl3_1_2 : w1.heap.size + 2 < w3.heap.size := by omega); (try have hl3_2_0 : w2.heap.size < w3.heap.size := by omega); (try have hm3_2_0 : w2.heap.size ≤ w3.heap.size := by omega); (try have hl3_2_1 : w2.heap.size + 1 < w3.heap.size := by omega); (try have hl3_2_2 : w2.heap.size + 2 < w3.heap.size := by omega)
  go_wp2_with fail
  refine wp_region_gr (by kernel_rfl) (by kernel_rfl) (fun hq1 hq2 => ?_)
  repeat (first | go_big_quiet_skip | (go_big_quiet_want; go_big_quiet_op; first | go_big_quiet_on | (apply Exists.intro; refine ⟨fun _ => ?_, ?_⟩; (· (first | (go_at_call 36; exact gr_call_same (HY.out _)) | (go_at_call 37; exact gr_call (HH.out _)))); go_big_quiet_on)))
  refine wpQuiet_nil ?_
  clear hq1 hq2
  rintro w4 ⟨⟨_, hg4⟩, rfl⟩
  obtain ⟨hc4, hf4⟩ := hg4.cells
  have hz4 := hg4.size
  (try simp at hz4); (try have hl4_0_0 : w.heap.size < w4.heap.size := by omega); (try have hm4_0_0 : w.heap.size ≤ w4.heap.size := by omega); (try have hl4_0_1 : w.heap.size + 1 < w4.heap.size := by omega); (try have hl4_0_2 : w.heap.size + 2 < w4.heap.size := by omega); (try have hl4_1_0 : w1.heap.size < w4.heap.size := by omega); (try have hm4_1_0 : w1.heap.size ≤ w4.heap.size := by omega); (try have hl4_1_1 : w1.heap.size + 1 < w4.heap.size := by omega); (try have hl4_1_2 : w1.heap.size + 2 < w4.heap.size := by omega); (try have hl4_2_0 : w2.heap.size < w4.heap.size := by omega); (try have hm4_2_0 : w2.heap.size ≤ w4.heap.size := by omega); (try have hl4_2_1 : w2.heap.size + 1 < w4.heap.size := by omega); (try have hl4_2_2 : w2.heap.size + 2 < w4.heap.size := by omega); (try have hl4_3_0 : w3.heap.size < w4.heap.size := by omega); (try have hm4_3_0 : w3.heap.size ≤ w4.heap.size := by omega); (try have hl4_3_1 : w3.heap.size + 1 < w4.heap.size := by omega); (try have hl4_3_2 : w3.heap.size + 2 < w4.heap.size := by omega)
  go_wp2_with fail
  refine wp_region_gr (by kernel_rfl) (by kernel_rfl) (fun hq1 hq2 => ?_)
  repeat (first | go_big_quiet_skip | (go_big_quiet_want; go_big_quiet_op; first | go_big_quiet_on | (apply Exists.intro; refine ⟨fun _ => ?_, ?_⟩; (· (first | (go_at_call 41; with_reducible exact gr_call (HP.out _)) | (go_at_call 42; with_reducible exact gr_call (HD.out _)))); go_big_quiet_on)))
  refine wpQuiet_nil ?_
  clear hq1 hq2
  rintro w5 ⟨⟨_, hg5⟩, rfl⟩
  obtain ⟨hc5, hf5⟩ := hg5.cells
  have hz5 := hg5.size
  (try simp at hz5); (try have hl5_0_0 : w.heap.size < w5.heap.size := by omega); (try have hm5_0_0 : w.heap.size ≤ w5.heap.size := by omega); (try have hl5_0_1 : w.heap.size + 1 < w5.heap.size := by omega); (try have hl5_0_2 : w.heap.size + 2 < w5.heap.size := by omega); (try have hl5_1_0 : w1.heap.size < w5.heap.size := by omega); (try have hm5_1_0 : w1.heap.size ≤ w5.heap.size := by omega); (try have hl5_1_1 : w1.heap.size + 1 < w5.heap.size := by omega); (try have hl5_1_2 : w1.heap.size + 2 < w5.heap.size := by omega); (try have hl5_2_0 : w2.heap.size < w5.heap.size := by omega); (try have hm5_2_0 : w2.heap.size ≤ w5.heap.size := by omega); (try have hl5_2_1 : w2.heap.size + 1 < w5.heap.size := by omega); (try have hl5_2_2 : w2.heap.size + 2 < w5.heap.size := by omega); (try have hl5_3_0 : w3.heap.size < w5.heap.size := by omega); (try have hm5_3_0 : w3.heap.size ≤ w5.heap.size := by omega); (try have hl5_3_1 : w3.heap.size + 1 < w5.heap.size := by omega); (try have hl5_3_2 : w3.heap.size + 2 < w5.heap.size := by omega); (try have hl5_4_0 : w4.heap.size < w5.heap.size := by omega); (try have hm5_4_0 : w4.heap.size ≤ w5.heap.size := by omega); (try have hl5_4_1 : w4.heap.size + 1 < w5.heap.size := by omega); (try have hl5_4_2 : w4.heap.size + 2 < w5.heap.size := by omega)
  go_wp2_with fail
  refine wp_region_gr_tail 13 (by kernel_rfl) (by kernel_rfl) (fun hq1 hq2 => ?_)
  simp only [List.take_succ_cons, List.take_zero, List.drop_succ_cons, List.drop_zero]
  repeat (first | go_big_quiet_skip | (go_big_quiet_want; go_big_quiet_op; first | go_big_quiet_on | (apply Exists.intro; refine ⟨fun _ => ?_, ?_⟩; (· (first | (go_at_call 41; with_reducible exact gr_call (HPD.out _)) | (go_at_call 54; with_reducible exact gr_call (HF.out _)))); go_big_quiet_on)))
  refine wpQuiet_nil ?_
  clear hq1 hq2
  rintro w8 ⟨⟨_, hg8⟩, rfl⟩
  obtain ⟨hc8, hf8⟩ := hg8.cells
  have hz8 := hg8.size
  (try simp at hz8); (try have hl8_0_0 : w.heap.size < w8.heap.size := by omega); (try have hm8_0_0 : w.heap.size ≤ w8.heap.size := by omega); (try have hl8_0_1 : w.heap.size + 1 < w8.heap.size := by omega); (try have hl8_0_2 : w.heap.size + 2 < w8.heap.size := by omega); (try have hl8_1_0 : w1.heap.size < w8.heap.size := by omega); (try have hm8_1_0 : w1.heap.size ≤ w8.heap.size := by omega); (try have hl8_1_1 : w1.heap.size + 1 < w8.heap.size := by omega); (try have hl8_1_2 : w1.heap.size + 2 < w8.heap.size := by omega); (try have hl8_2_0 : w2.heap.size < w8.heap.size := by omega); (try have hm8_2_0 : w2.heap.size ≤ w8.heap.size := by omega); (try have hl8_2_1 : w2.heap.size + 1 < w8.heap.size := by omega); (try have hl8_2_2 : w2.heap.size + 2 < w8.heap.size := by omega); (try have hl8_3_0 : w3.heap.size < w8.heap.size := by omega); (try have hm8_3_0 : w3.heap.size ≤ w8.heap.size := by omega); (try have hl8_3_1 : w3.heap.size + 1 < w8.heap.size := by omega); (try have hl8_3_2 : w3.heap.size + 2 < w8.heap.size := by omega); (try have hl8_4_0 : w4.heap.size < w8.heap.size := by omega); (try have hm8_4_0 : w4.heap.size ≤ w8.heap.size := by omega); (try have hl8_4_1 : w4.heap.size + 1 < w8.heap.size := by omega); (try have hl8_4_2 : w4.heap.size + 2 < w8.heap.size := by omega); (try have hl8_5_0 : w5.heap.size < w8.heap.size := by omega); (try have hm8_5_0 : w5.heap.size ≤ w8.heap.size := by omega); (try have hl8_5_1 : w5.heap.size + 1 < w8.heap.size := by omega); (try have hl8_5_2 : w5.heap.size + 2 < w8.heap.size := by omega); (try have hl8_6_0 : w6.heap.size < w8.heap.size := by omega); (try have hm8_6_0 : w6.heap.size ≤ w8.heap.size := by omega); (try have hl8_6_1 : w6.heap.size + 1 < w8.heap.size := by omega); (try have hl8_6_2 : w6.heap.size + 2 < w8.heap.size := by omega); (try have hl8_7_0 : w7.heap.size < w8.heap.size := by omega); (try have hm8_7_0 : w7.heap.size ≤ w8.heap.size := by omega); (try have hl8_7_1 : w7.heap.size + 1 < w8.heap.size := by omega); (try have hl8_7_2 : w7.heap.size + 2 < w8.heap.size := by omega)
  go_wp2_with fail
  have hgL : Gr (((w.alloc (.cells #[.int .i64 an, .int .i64 ad] 23)).alloc (.cells #[.int .i64 bn, .int .i64 bd] 23)).alloc (.cells #[.int .i64 0, .int .i64 0] 23)) w8 := (by repeat (first | with_reducible exact Gr.refl _ | with_reducible assumption | refine Gr.setCell ?_ (by first | omega | (simp; done) | (simp; omega)) _ | refine Gr.alloc ?_ _ | refine Gr.drew ?_ | refine Gr.drewN ?_ _ | refine Gr.trans ?_ (by with_reducible assumption)))
  obtain ⟨hcL, hfL⟩ := hgL.cells
  have tL0 := hcL (w.heap.size + 2) 0 (by simp)
  have mL0 := hfL (w.heap.size + 2) 0 (by simp)
  have tL1 := hcL (w.heap.size + 2) 1 (by simp)
  have mL1 := hfL (w.heap.size + 2) 1 (by simp)
  simp [go_sem] at tL0 mL0 tL1 mL1
  simp [bodyPost, results, Try.results34, go_sem, tL0, mL0, tL1, mL1]
  exact (by repeat (first | refine Gr.setCell ?_ (by first | omega | (simp; done) | (simp; omega)) _ | refine Gr.alloc ?_ _ | refine Gr.drew ?_ | refine Gr.drewN ?_ _ | with_reducible assumption | with_reducible exact Gr.refl _ | refine Gr.trans ?_ (by with_reducible assumption)))


set_option maxRecDepth 100000 in
set_option maxHeartbeats 8000000 in
theorem mul_core_no (an ad bn bd g h α β γ δ v Q r D FN FD FE : Int) (w : World) (a1 : 1 ≤ ad) (a2 : ad ≤ 9223372036854775807) (b1 : 1 ≤ bd) (b2 : bd ≤ 9223372036854775807) (an1 : I64 an) (bn1 : I64 bn)
    (g1 : 1 ≤ g) (g2 : g ≤ 9223372036854775807) (h1 : 1 ≤ h) (h2 : h ≤ 9223372036854775807) (hα : an.tdiv g = α) (hα' : an / g = α) (hγ : bn.tdiv h = γ) (hγ' : bn / h = γ) (hβ : bd / g = β) (hδ : ad / h = δ)
    (HA : ∀ w, Calls Try.prog 15 #[.agg #[.int .i64 an, .int .i64 ad]] w fun e w' => e = .returned (.bool true) ∧ Gr w w')
    (HB : ∀ w, Calls Try.prog 15 #[.agg #[.int .i64 bn, .int .i64 bd]] w fun e w' => e = .returned (.bool true) ∧ Gr w w')
    (HG : ∀ w, Calls Try.prog 37 #[.int .u64 (mg an), .int .u64 bd] w fun e w' => e = .returned (.int .u64 g) ∧ Gr w w')
    (HH : ∀ w, Calls Try.prog 37 #[.int .u64 (mg bn), .int .u64 ad] w fun e w' => e = .returned (.int .u64 h) ∧ Gr w w')
    (HP : ∀ w, Calls Try.prog 41 #[.int .i64 α, .int .i64 γ] w fun e w' => e = .returned (.agg #[.bool (wN v), .int .u64 (wH v), .int .u64 (wL v)]) ∧ Gr w w')
    (HD : ∀ w, Calls Try.prog 42 #[.agg #[.bool (wN v), .int .u64 (wH v), .int .u64 (wL v)], .int .u64 1] w fun e w' => e = .returned (.tuple #[.int .i64 Q, .int .u64 r, .bool false]) ∧ Gr w w') :
    Calls Try.prog 34 #[.agg #[.int .i64 an, .int .i64 ad], .agg #[.int .i64 bn, .int .i64 bd]] w fun e w' => e = .returned (.tuple #[.agg #[.int .i64 0, .int .i64 0], .int .i64 2]) ∧ Gr w w' := by
  have HA := Lib.hid HA
  have HB := Lib.hid HB
  have HG := Lib.hid HG
  have HH := Lib.hid HH
  have HP := Lib.hid HP
  have HD := Lib.hid HD
  have HX := Lib.hid (fun w => magnitude_any an w an1.1 an1.2)
  have HY := Lib.hid (fun w => magnitude_any bn w bn1.1 bn1.2)
  obtain ⟨an1, an2⟩ := an1
  obtain ⟨bn1, bn2⟩ := bn1
  have gz : (g == 0) = false := by simp; omega
  have hz : (h == 0) = false := by simp; omega
  have qa := quot_in g1 an1 an2
  have qb := quot_in h1 bn1 bn2
  rw [hα'] at qa
  rw [hγ'] at qb
  obtain ⟨qa1, qa2⟩ := qa
  obtain ⟨qb1, qb2⟩ := qb
  have wα : IntKind.i64.wrap (an.tdiv g) = α := by rw [hα]; exact IntWalk.i64_in _ (by omega)
  have wγ : IntKind.i64.wrap (bn.tdiv h) = γ := by rw [hγ]; exact IntWalk.i64_in _ (by omega)
  have ma := mg_nonneg an
  have mb := mg_nonneg bn
  go_enter Try.func34, Try.ntmps34
  go_wp2_with (first
    | (go_at_call 15; with_reducible refine (HA.out _).mono ?_; rintro e w1 ⟨rfl, hg1⟩; obtain ⟨hc1, hf1⟩ := hg1.cells; have hz1 := hg1.size; (try simp at hz1); (try have hl1_0_0 : w.heap.size < w1.heap.size := by omega); (try have hm1_0_0 : w.heap.size ≤ w1.heap.size := by omega); (try have hl1_0_1 : w.heap.size + 1 < w1.heap.size := by omega); (try have hl1_0_2 : w.heap.size + 2 < w1.heap.size := by omega))
    | (go_at_call 15; with_reducible refine (HB.out _).mono ?_; rintro e w2 ⟨rfl, hg2⟩; obtain ⟨hc2, hf2⟩ := hg2.cells; have hz2 := hg2.size; (try simp at hz2); (try have hl2_0_0 : w.heap.size < w2.heap.size := by omega); (try have hm2_0_0 : w.heap.size ≤ w2.heap.size := by omega); (try have hl2_0_1 : w.heap.size + 1 < w2.heap.size := by omega); (try have hl2_0_2 : w.heap.size + 2 < w2.heap.size := by omega); (try have hl2_1_0 : w1.heap.size < w2.heap.size := by omega); (try have hm2_1_0 : w1.heap.size ≤ w2.heap.size := by omega); (try have hl2_1_1 : w1.heap.size + 1 < w2.heap.size := by omega); (try have hl2_1_2 : w1.heap.size + 2 < w2.heap.size := by omega)))
  refine wp_region_gr (by kernel_rfl) (by kernel_rfl) (fun hq1 hq2 => ?_)
  repeat (first | go_big_quiet_skip | (go_big_quiet_want; go_big_quiet_op; first | go_big_quiet_on | (apply Exists.intro; refine ⟨fun _ => ?_, ?_⟩; (· (first | (go_at_call 36; exact gr_call_same (HX.out _)) | (go_at_call 37; exact gr_call (HG.out _)))); go_big_quiet_on)))
  refine wpQuiet_nil ?_
  clear hq1 hq2
  rintro w3 ⟨⟨_, hg3⟩, rfl⟩
  obtain ⟨hc3, hf3⟩ := hg3.cells
  have hz3 := hg3.size
  (try simp at hz3); (try have hl3_0_0 : w.heap.size < w3.heap.size := by omega); (try have hm3_0_0 : w.heap.size ≤ w3.heap.size := by omega); (try have hl3_0_1 : w.heap.size + 1 < w3.heap.size := by omega); (try have hl3_0_2 : w.heap.size + 2 < w3.heap.size := by omega); (try have hl3_1_0 : w1.heap.size < w3.heap.size := by omega); (try have hm3_1_0 : w1.heap.size ≤ w3.heap.size := by omega); (try have hl3_1_1 : w1.heap.size + 1 < w3.heap.size := by omega); (try have hl3_1_2 : w1.heap.size + 2 < w3.heap.size := by omega); (try have hl3_2_0 : w2.heap.size < w3.heap.size := by omega); (try have hm3_2_0 : w2.heap.size ≤ w3.heap.size := by omega); (try have hl3_2_1 : w2.heap.size + 1 < w3.heap.size := by omega); (try have hl3_2_2 : w2.heap.size + 2 < w3.heap.size := by omega)
  go_wp2_with fail
  refine wp_region_gr (by kernel_rfl) (by kernel_rfl) (fun hq1 hq2 => ?_)
  repeat (first | go_big_quiet_skip | (go_big_quiet_want; go_big_quiet_op; first | go_big_quiet_on | (apply Exists.intro; refine ⟨fun _ => ?_, ?_⟩; (· (first | (go_at_call 36; exact gr_call_same (HY.out _)) | (go_at_call 37; exact gr_call (HH.out _)))); go_big_quiet_on)))
  refine wpQuiet_nil ?_
  clear hq1 hq2
  rintro w4 ⟨⟨_, hg4⟩, rfl⟩
  obtain ⟨hc4, hf4⟩ := hg4.cells
  have hz4 := hg4.size
  (try simp at hz4); (try have hl4_0_0 : w.heap.size < w4.heap.size := by omega); (try have hm4_0_0 : w.heap.size ≤ w4.heap.size := by omega); (try have hl4_0_1 : w.heap.size + 1 < w4.heap.size := by omega); (try have hl4_0_2 : w.heap.size + 2 < w4.heap.size := by omega); (try have hl4_1_0 : w1.heap.size < w4.heap.size := by omega); (try have hm4_1_0 : w1.heap.size ≤ w4.heap.size := by omega); (try have hl4_1_1 : w1.heap.size + 1 < w4.heap.size := by omega); (try have hl4_1_2 : w1.heap.size + 2 < w4.heap.size := by omega); (try have hl4_2_0 : w2.heap.size < w4.heap.size := by omega); (try have hm4_2_0 : w2.heap.size ≤ w4.heap.size := by omega); (try have hl4_2_1 : w2.heap.size + 1 < w4.heap.size := by omega); (try have hl4_2_2 : w2.heap.size + 2 < w4.heap.size := by omega); (try have hl4_3_0 : w3.heap.size < w4.heap.size := by omega); (try have hm4_3_0 : w3.heap.size ≤ w4.heap.size := by omega); (try have hl4_3_1 : w3.heap.size + 1 < w4.heap.size := by omega); (try have hl4_3_2 : w3.heap.size + 2 < w4.heap.size := by omega)
  go_wp2_with fail
  refine wp_region_gr (by kernel_rfl) (by kernel_rfl) (fun hq1 hq2 => ?_)
  repeat (first | go_big_quiet_skip | (go_big_quiet_want; go_big_quiet_op; first | go_big_quiet_on | (apply Exists.intro; refine ⟨fun _ => ?_, ?_⟩; (· (first | (go_at_call 41; with_reducible exact gr_call (HP.out _)) | (go_at_call 42; with_reducible exact gr_call (HD.out _)))); go_big_quiet_on)))
  refine wpQuiet_nil ?_
  clear hq1 hq2
  rintro w5 ⟨⟨_, hg5⟩, rfl⟩
  obtain ⟨hc5, hf5⟩ := hg5.cells
  have hz5 := hg5.size
  (try simp at hz5); (try have hl5_0_0 : w.heap.size < w5.heap.size := by omega); (try have hm5_0_0 : w.heap.size ≤ w5.heap.size := by omega); (try have hl5_0_1 : w.heap.size + 1 < w5.heap.size := by omega); (try have hl5_0_2 : w.heap.size + 2 < w5.heap.size := by omega); (try have hl5_1_0 : w1.heap.size < w5.heap.size := by omega); (try have hm5_1_0 : w1.heap.size ≤ w5.heap.size := by omega); (try have hl5_1_1 : w1.heap.size + 1 < w5.heap.size := by omega); (try have hl5_1_2 : w1.heap.size + 2 < w5.heap.size := by omega); (try have hl5_2_0 : w2.heap.size < w5.heap.size := by omega); (try have hm5_2_0 : w2.heap.size ≤ w5.heap.size := by omega); (try have hl5_2_1 : w2.heap.size + 1 < w5.heap.size := by omega); (try have hl5_2_2 : w2.heap.size + 2 < w5.heap.size := by omega); (try have hl5_3_0 : w3.heap.size < w5.heap.size := by omega); (try have hm5_3_0 : w3.heap.size ≤ w5.heap.size := by omega); (try have hl5_3_1 : w3.heap.size + 1 < w5.heap.size := by omega); (try have hl5_3_2 : w3.heap.size + 2 < w5.heap.size := by omega); (try have hl5_4_0 : w4.heap.size < w5.heap.size := by omega); (try have hm5_4_0 : w4.heap.size ≤ w5.heap.size := by omega); (try have hl5_4_1 : w4.heap.size + 1 < w5.heap.size := by omega); (try have hl5_4_2 : w4.heap.size + 2 < w5.heap.size := by omega)
  go_wp2_with fail
  have hgL : Gr (((w.alloc (.cells #[.int .i64 an, .int .i64 ad] 23)).alloc (.cells #[.int .i64 bn, .int .i64 bd] 23)).alloc (.cells #[.int .i64 0, .int .i64 0] 23)) w5 := (by repeat (first | with_reducible exact Gr.refl _ | with_reducible assumption | refine Gr.setCell ?_ (by first | omega | (simp; done) | (simp; omega)) _ | refine Gr.alloc ?_ _ | refine Gr.drew ?_ | refine Gr.drewN ?_ _ | refine Gr.trans ?_ (by with_reducible assumption)))
  obtain ⟨hcL, hfL⟩ := hgL.cells
  have tL0 := hcL (w.heap.size + 2) 0 (by simp)
  have mL0 := hfL (w.heap.size + 2) 0 (by simp)
  have tL1 := hcL (w.heap.size + 2) 1 (by simp)
  have mL1 := hfL (w.heap.size + 2) 1 (by simp)
  simp [go_sem] at tL0 mL0 tL1 mL1
  simp [bodyPost, results, Try.results34, go_sem, tL0, mL0, tL1, mL1]
  exact (by repeat (first | refine Gr.setCell ?_ (by first | omega | (simp; done) | (simp; omega)) _ | refine Gr.alloc ?_ _ | refine Gr.drew ?_ | refine Gr.drewN ?_ _ | with_reducible assumption | with_reducible exact Gr.refl _ | refine Gr.trans ?_ (by with_reducible assumption)))

end Go.Proofs.Ytclfiaemjdflbaa
