/-
  Contract of Add of package rational, out of its parts.
  Conditions: the arguments are integers of their kinds.
-/
import Derived.Test.YtclfiaemjdflbaaDoorWalkR
namespace Go.Proofs.YtclfiaemjdflbaaDoor
open Go.RowKit
set_option linter.unusedSimpArgs false
set_option linter.unusedVariables false

set_option maxRecDepth 100000 in
set_option maxHeartbeats 8000000 in
theorem add_core_yes (an ad bn bd g α β γ S M h Q r D FN FD FE : Int) (w : World) (a1 : 1 ≤ ad) (a2 : ad ≤ 9223372036854775807) (b1 : 1 ≤ bd) (b2 : bd ≤ 9223372036854775807)
    (g1 : 1 ≤ g) (g2 : g ≤ 9223372036854775807) (h1 : 1 ≤ h) (h2 : h ≤ 9223372036854775807) (hα : ad / g = α) (hβ : bd / g = β) (hγ : bd / h = γ)
    (HA : ∀ w, Calls Tryd.prog 17 #[.agg #[.int .i64 an, .int .i64 ad]] w fun e w' => e = .returned (.bool true) ∧ Gr w w')
    (HB : ∀ w, Calls Tryd.prog 17 #[.agg #[.int .i64 bn, .int .i64 bd]] w fun e w' => e = .returned (.bool true) ∧ Gr w w')
    (HG : ∀ w, Calls Tryd.prog 33 #[.int .u64 ad, .int .u64 bd] w fun e w' => e = .returned (.int .u64 g) ∧ Gr w w')
    (HP1 : ∀ w, Calls Tryd.prog 19 #[.int .i64 an, .int .i64 β] w fun e w' => e = .returned (.agg #[.bool (wN (an * β)), .int .u64 (wH (an * β)), .int .u64 (wL (an * β))]) ∧ Gr w w')
    (HP2 : ∀ w, Calls Tryd.prog 19 #[.int .i64 bn, .int .i64 α] w fun e w' => e = .returned (.agg #[.bool (wN (bn * α)), .int .u64 (wH (bn * α)), .int .u64 (wL (bn * α))]) ∧ Gr w w')
    (HS : ∀ w, Calls Tryd.prog 20 #[.agg #[.bool (wN (an * β)), .int .u64 (wH (an * β)), .int .u64 (wL (an * β))], .agg #[.bool (wN (bn * α)), .int .u64 (wH (bn * α)), .int .u64 (wL (bn * α))]] w fun e w' => e = .returned (.agg #[.bool (wN S), .int .u64 (wH S), .int .u64 (wL S)]) ∧ Gr w w')
    (HM : ∀ w, Calls Tryd.prog 37 #[.agg #[.bool (wN S), .int .u64 (wH S), .int .u64 (wL S)], .int .u64 g] w fun e w' => e = .returned (.int .u64 M) ∧ Gr w w')
    (HG2 : ∀ w, Calls Tryd.prog 33 #[.int .u64 M, .int .u64 g] w fun e w' => e = .returned (.int .u64 h) ∧ Gr w w')
    (HD : ∀ w, Calls Tryd.prog 38 #[.agg #[.bool (wN S), .int .u64 (wH S), .int .u64 (wL S)], .int .u64 h] w fun e w' => e = .returned (.tuple #[.int .i64 Q, .int .u64 r, .bool true]) ∧ Gr w w')
    (HPD : ∀ w, Calls Tryd.prog 19 #[.int .i64 α, .int .i64 γ] w fun e w' => e = .returned (.agg #[.bool (wN D), .int .u64 (wH D), .int .u64 (wL D)]) ∧ Gr w w')
    (HF : ∀ w, Calls Tryd.prog 39 #[.int .i64 Q, .agg #[.bool (wN D), .int .u64 (wH D), .int .u64 (wL D)]] w fun e w' => e = .returned (.tuple #[.agg #[.int .i64 FN, .int .i64 FD], .int .i64 FE]) ∧ Gr w w') :
    Calls Tryd.prog 25 #[.agg #[.int .i64 an, .int .i64 ad], .agg #[.int .i64 bn, .int .i64 bd]] w fun e w' =>
      e = .returned (.tuple #[.agg #[.int .i64 (FN), .int .i64 (FD)], .int .i64 (FE)]) ∧ Gr w w' := by
  have HA := Lib.hid HA
  have HB := Lib.hid HB
  have HG := Lib.hid HG
  have HP1 := Lib.hid HP1
  have HP2 := Lib.hid HP2
  have HS := Lib.hid HS
  have HM := Lib.hid HM
  have HG2 := Lib.hid HG2
  have HD := Lib.hid HD
  have HPD := Lib.hid HPD
  have HF := Lib.hid HF
  have gz : (g == 0) = false := by simp; omega
  have hz : (h == 0) = false := by simp; omega
  generalize an * β = p1 at *
  generalize bn * α = p2 at *
  go_enter Tryd.func25, Tryd.ntmps25
  go_wp2_with (first
    | (go_at_call 17; with_reducible refine (HA.out _).mono ?_; rintro e w1 ⟨rfl, hg1⟩; obtain ⟨hc1, hf1⟩ := hg1.cells; have hz1 := hg1.size; (try simp at hz1); (try have hl1_0_0 : w.heap.size < w1.heap.size := by omega); (try have hm1_0_0 : w.heap.size ≤ w1.heap.size := by omega); (try have hl1_0_1 : w.heap.size + 1 < w1.heap.size := by omega); (try have hl1_0_2 : w.heap.size + 2 < w1.heap.size := by omega))
    | (go_at_call 17; with_reducible refine (HB.out _).mono ?_; rintro e w2 ⟨rfl, hg2⟩; obtain ⟨hc2, hf2⟩ := hg2.cells; have hz2 := hg2.size; (try simp at hz2); (try have hl2_0_0 : w.heap.size < w2.heap.size := by omega); (try have hm2_0_0 : w.heap.size ≤ w2.heap.size := by omega); (try have hl2_0_1 : w.heap.size + 1 < w2.heap.size := by omega); (try have hl2_0_2 : w.heap.size + 2 < w2.heap.size := by omega); (try have hl2_1_0 : w1.heap.size < w2.heap.size := by omega); (try have hm2_1_0 : w1.heap.size ≤ w2.heap.size := by omega); (try have hl2_1_1 : w1.heap.size + 1 < w2.heap.size := by omega); (try have hl2_1_2 : w1.heap.size + 2 < w2.heap.size := by omega))
    | (go_at_call 33; with_reducible refine (HG.out _).mono ?_; rintro e w3 ⟨rfl, hg3⟩; obtain ⟨hc3, hf3⟩ := hg3.cells; have hz3 := hg3.size; (try simp at hz3); (try have hl3_0_0 : w.heap.size < w3.heap.size := by omega); (try have hm3_0_0 : w.heap.size ≤ w3.heap.size := by omega); (try have hl3_0_1 : w.heap.size + 1 < w3.heap.size := by omega); (try have hl3_0_2 : w.heap.size + 2 < w3.heap.size := by omega); (try have hl3_1_0 : w1.heap.size < w3.heap.size := by omega); (try have hm3_1_0 : w1.heap.size ≤ w3.heap.size := by omega); (try have hl3_1_1 : w1.heap.size + 1 < w3.heap.size := by omega); (try have hl3_1_2 : w1.heap.size + 2 < w3.heap.size := by omega); (try have hl3_2_0 : w2.heap.size < w3.heap.size := by omega); (try have hm3_2_0 : w2.heap.size ≤ w3.heap.size := by omega); (try have hl3_2_1 : w2.heap.size + 1 < w3.heap.size := by omega); (try have hl3_2_2 : w2.heap.size + 2 < w3.heap.size := by omega)))
  refine wp_region_made1 15 (.cells #[.bool false, .int .u64 0, .int .u64 0] 43) _ (by kernel_rfl) (by kernel_rfl) rfl rfl (fun a w => by simp [execOp, go_sem]) (fun B hB hq1 hq2 => ?_)
  simp only [List.take_succ_cons, List.take_zero, List.drop_succ_cons, List.drop_zero]
  repeat (first | go_big_quiet_skip | (go_big_quiet_want; go_big_quiet_op; first | go_big_quiet_on | (apply Exists.intro; refine ⟨fun _ => ?_, ?_⟩; (· (first | (go_at_call 19; with_reducible exact gr_call (HP1.out _)) | (go_at_call 19; with_reducible exact gr_call (HP2.out _)) | (go_at_call 20; exact gr_call (HS.out _)))); go_big_quiet_on)))
  refine wpQuiet_nil ?_
  clear hq1 hq2 hB
  rintro G w4 hg4 hs4_G hb4_G
  obtain ⟨hc4, hf4⟩ := hg4.cells
  have hz4 := hg4.size
  (try simp at hz4); (try have hl4_0_0 : w.heap.size < w4.heap.size := by omega); (try have hm4_0_0 : w.heap.size ≤ w4.heap.size := by omega); (try have hl4_0_1 : w.heap.size + 1 < w4.heap.size := by omega); (try have hl4_0_2 : w.heap.size + 2 < w4.heap.size := by omega); (try have hl4_1_0 : w1.heap.size < w4.heap.size := by omega); (try have hm4_1_0 : w1.heap.size ≤ w4.heap.size := by omega); (try have hl4_1_1 : w1.heap.size + 1 < w4.heap.size := by omega); (try have hl4_1_2 : w1.heap.size + 2 < w4.heap.size := by omega); (try have hl4_2_0 : w2.heap.size < w4.heap.size := by omega); (try have hm4_2_0 : w2.heap.size ≤ w4.heap.size := by omega); (try have hl4_2_1 : w2.heap.size + 1 < w4.heap.size := by omega); (try have hl4_2_2 : w2.heap.size + 2 < w4.heap.size := by omega); (try have hl4_3_0 : w3.heap.size < w4.heap.size := by omega); (try have hm4_3_0 : w3.heap.size ≤ w4.heap.size := by omega); (try have hl4_3_1 : w3.heap.size + 1 < w4.heap.size := by omega); (try have hl4_3_2 : w3.heap.size + 2 < w4.heap.size := by omega)
  (try simp at hs4_G)
  have hx4_G : G < w4.heap.size := lt_of_block hb4_G
  have hy4_G_0 := cells_of_block hb4_G 0
  have hv4_G_0 := mark_of_block hb4_G 0
  have hy4_G_1 := cells_of_block hb4_G 1
  have hv4_G_1 := mark_of_block hb4_G 1
  have hy4_G_2 := cells_of_block hb4_G 2
  have hv4_G_2 := mark_of_block hb4_G 2
  simp at hy4_G_0 hy4_G_1 hy4_G_2
  go_wp2_with fail
  refine calls_gen (R := fun W => w.heap.size + 2 < W.heap.size ∧ G < W.heap.size ∧ W.cell? ⟨G, 0, none⟩ = some (.bool (wN S)) ∧ W.cell? ⟨G, 1, none⟩ = some (.int .u64 (wH S)) ∧ W.cell? ⟨G, 2, none⟩ = some (.int .u64 (wL S)) ∧ Gr (((w.alloc (.cells #[.int .i64 an, .int .i64 ad] 23)).alloc (.cells #[.int .i64 bn, .int .i64 bd] 23)).alloc (.cells #[.int .i64 0, .int .i64 0] 23)) W) ?_ ?_
  · have hb : Gr (((w.alloc (.cells #[.int .i64 an, .int .i64 ad] 23)).alloc (.cells #[.int .i64 bn, .int .i64 bd] 23)).alloc (.cells #[.int .i64 0, .int .i64 0] 23)) w4 := hg1.trans (hg2.trans (hg3.trans hg4))
    refine ⟨by simp; omega, by simp; omega, by simp [go_sem, hy4_G_0, hy4_G_1, hy4_G_2], by simp [go_sem, hy4_G_0, hy4_G_1, hy4_G_2], by simp [go_sem, hy4_G_0, hy4_G_1, hy4_G_2], ?_⟩
    exact ((hb.setCell (by simp; omega) _).setCell (by simp; omega) _).setCell (by simp; omega) _
  clear hy4_G_0 hy4_G_1 hy4_G_2 hv4_G_0 hv4_G_1 hv4_G_2 hb4_G hc1 hc2 hc3 hc4 hf1 hf2 hf3 hf4
  rintro W ⟨hlW, hxW, hyW_G_0, hyW_G_1, hyW_G_2, hgW⟩
  obtain ⟨hcW, hfW⟩ := hgW.cells
  have hlW0 : w.heap.size < W.heap.size := by omega
  have hlW1 : w.heap.size + 1 < W.heap.size := by omega
  with_reducible refine (HM.out _).mono ?_
  rintro e w5 ⟨rfl, hg5⟩
  obtain ⟨hc5, hf5⟩ := hg5.cells
  have hz5 := hg5.size
  have hl5_0_0 : w.heap.size < w5.heap.size := by omega
  have hl5_0_1 : w.heap.size + 1 < w5.heap.size := by omega
  have hl5_0_2 : w.heap.size + 2 < w5.heap.size := by omega
  have hx5 : G < w5.heap.size := by omega
  go_wp2_with (first
    | ((go_at_call 33; with_reducible refine (HG2.out _).mono ?_; rintro e w6 ⟨rfl, hg6⟩; obtain ⟨hc6, hf6⟩ := hg6.cells; have hz6 := hg6.size; (try simp at hz6); (try have hl6_0_0 : w.heap.size < w6.heap.size := by omega); (try have hm6_0_0 : w.heap.size ≤ w6.heap.size := by omega); (try have hl6_0_1 : w.heap.size + 1 < w6.heap.size := by omega); (try have hl6_0_2 : w.heap.size + 2 < w6.heap.size := by omega); (try have hl6_1_0 : w1.heap.size < w6.heap.size := by omega); (try have hm6_1_0 : w1.heap.size ≤ w6.heap.size := by omega); (try have hl6_1_1 : w1.heap.size + 1 < w6.heap.size := by omega); (try have hl6_1_2 : w1.heap.size + 2 < w6.heap.size := by omega); (try have hl6_2_0 : w2.heap.size < w6.heap.size := by omega); (try have hm6_2_0 : w2.heap.size ≤ w6.heap.size := by omega); (try have hl6_2_1 : w2.heap.size + 1 < w6.heap.size := by omega); (try have hl6_2_2 : w2.heap.size + 2 < w6.heap.size := by omega); (try have hl6_3_0 : w3.heap.size < w6.heap.size := by omega); (try have hm6_3_0 : w3.heap.size ≤ w6.heap.size := by omega); (try have hl6_3_1 : w3.heap.size + 1 < w6.heap.size := by omega); (try have hl6_3_2 : w3.heap.size + 2 < w6.heap.size := by omega); (try have hl6_4_0 : w4.heap.size < w6.heap.size := by omega); (try have hm6_4_0 : w4.heap.size ≤ w6.heap.size := by omega); (try have hl6_4_1 : w4.heap.size + 1 < w6.heap.size := by omega); (try have hl6_4_2 : w4.heap.size + 2 < w6.heap.size := by omega); (try have hl6_5_0 : w5.heap.size < w6.heap.size := by omega); (try have hm6_5_0 : w5.heap.size ≤ w6.heap.size := by omega); (try have hl6_5_1 : w5.heap.size + 1 < w6.heap.size := by omega); (try have hl6_5_2 : w5.heap.size + 2 < w6.heap.size := by omega)); have hx6 : G < w6.heap.size := (by omega))
    | ((go_at_call 38; with_reducible refine (HD.out _).mono ?_; rintro e w7 ⟨rfl, hg7⟩; obtain ⟨hc7, hf7⟩ := hg7.cells; have hz7 := hg7.size; (try simp at hz7); (try have hl7_0_0 : w.heap.size < w7.heap.size := by omega); (try have hm7_0_0 : w.heap.size ≤ w7.heap.size := by omega); (try have hl7_0_1 : w.heap.size + 1 < w7.heap.size := by omega); (try have hl7_0_2 : w.heap.size + 2 < w7.heap.size := by omega); (try have hl7_1_0 : w1.heap.size < w7.heap.size := by omega); (try have hm7_1_0 : w1.heap.size ≤ w7.heap.size := by omega); (try have hl7_1_1 : w1.heap.size + 1 < w7.heap.size := by omega); (try have hl7_1_2 : w1.heap.size + 2 < w7.heap.size := by omega); (try have hl7_2_0 : w2.heap.size < w7.heap.size := by omega); (try have hm7_2_0 : w2.heap.size ≤ w7.heap.size := by omega); (try have hl7_2_1 : w2.heap.size + 1 < w7.heap.size := by omega); (try have hl7_2_2 : w2.heap.size + 2 < w7.heap.size := by omega); (try have hl7_3_0 : w3.heap.size < w7.heap.size := by omega); (try have hm7_3_0 : w3.heap.size ≤ w7.heap.size := by omega); (try have hl7_3_1 : w3.heap.size + 1 < w7.heap.size := by omega); (try have hl7_3_2 : w3.heap.size + 2 < w7.heap.size := by omega); (try have hl7_4_0 : w4.heap.size < w7.heap.size := by omega); (try have hm7_4_0 : w4.heap.size ≤ w7.heap.size := by omega); (try have hl7_4_1 : w4.heap.size + 1 < w7.heap.size := by omega); (try have hl7_4_2 : w4.heap.size + 2 < w7.heap.size := by omega); (try have hl7_5_0 : w5.heap.size < w7.heap.size := by omega); (try have hm7_5_0 : w5.heap.size ≤ w7.heap.size := by omega); (try have hl7_5_1 : w5.heap.size + 1 < w7.heap.size := by omega); (try have hl7_5_2 : w5.heap.size + 2 < w7.heap.size := by omega); (try have hl7_6_0 : w6.heap.size < w7.heap.size := by omega); (try have hm7_6_0 : w6.heap.size ≤ w7.heap.size := by omega); (try have hl7_6_1 : w6.heap.size + 1 < w7.heap.size := by omega); (try have hl7_6_2 : w6.heap.size + 2 < w7.heap.size := by omega)); have hx7 : G < w7.heap.size := (by omega)))
  refine wp_region_gr_tail 13 (by kernel_rfl) (by kernel_rfl) (fun hq1 hq2 => ?_)
  simp only [List.take_succ_cons, List.take_zero, List.drop_succ_cons, List.drop_zero]
  repeat (first | go_big_quiet_skip | (go_big_quiet_want; go_big_quiet_op; first | go_big_quiet_on | (apply Exists.intro; refine ⟨fun _ => ?_, ?_⟩; (· (first | (go_at_call 19; exact gr_call (HPD.out _)) | (go_at_call 39; exact gr_call (HF.out _)))); go_big_quiet_on)))
  refine wpQuiet_nil ?_
  clear hq1 hq2
  rintro w8 ⟨⟨_, hg8⟩, rfl⟩
  obtain ⟨hc8, hf8⟩ := hg8.cells
  have hz8 := hg8.size
  (try simp at hz8); (try have hl8_0_0 : w.heap.size < w8.heap.size := by omega); (try have hm8_0_0 : w.heap.size ≤ w8.heap.size := by omega); (try have hl8_0_1 : w.heap.size + 1 < w8.heap.size := by omega); (try have hl8_0_2 : w.heap.size + 2 < w8.heap.size := by omega); (try have hl8_1_0 : w1.heap.size < w8.heap.size := by omega); (try have hm8_1_0 : w1.heap.size ≤ w8.heap.size := by omega); (try have hl8_1_1 : w1.heap.size + 1 < w8.heap.size := by omega); (try have hl8_1_2 : w1.heap.size + 2 < w8.heap.size := by omega); (try have hl8_2_0 : w2.heap.size < w8.heap.size := by omega); (try have hm8_2_0 : w2.heap.size ≤ w8.heap.size := by omega); (try have hl8_2_1 : w2.heap.size + 1 < w8.heap.size := by omega); (try have hl8_2_2 : w2.heap.size + 2 < w8.heap.size := by omega); (try have hl8_3_0 : w3.heap.size < w8.heap.size := by omega); (try have hm8_3_0 : w3.heap.size ≤ w8.heap.size := by omega); (try have hl8_3_1 : w3.heap.size + 1 < w8.heap.size := by omega); (try have hl8_3_2 : w3.heap.size + 2 < w8.heap.size := by omega); (try have hl8_4_0 : w4.heap.size < w8.heap.size := by omega); (try have hm8_4_0 : w4.heap.size ≤ w8.heap.size := by omega); (try have hl8_4_1 : w4.heap.size + 1 < w8.heap.size := by omega); (try have hl8_4_2 : w4.heap.size + 2 < w8.heap.size := by omega); (try have hl8_5_0 : w5.heap.size < w8.heap.size := by omega); (try have hm8_5_0 : w5.heap.size ≤ w8.heap.size := by omega); (try have hl8_5_1 : w5.heap.size + 1 < w8.heap.size := by omega); (try have hl8_5_2 : w5.heap.size + 2 < w8.heap.size := by omega); (try have hl8_6_0 : w6.heap.size < w8.heap.size := by omega); (try have hm8_6_0 : w6.heap.size ≤ w8.heap.size := by omega); (try have hl8_6_1 : w6.heap.size + 1 < w8.heap.size := by omega); (try have hl8_6_2 : w6.heap.size + 2 < w8.heap.size := by omega); (try have hl8_7_0 : w7.heap.size < w8.heap.size := by omega); (try have hm8_7_0 : w7.heap.size ≤ w8.heap.size := by omega); (try have hl8_7_1 : w7.heap.size + 1 < w8.heap.size := by omega); (try have hl8_7_2 : w7.heap.size + 2 < w8.heap.size := by omega)
  go_wp2_with fail
  have hgL : Gr (((w.alloc (.cells #[.int .i64 an, .int .i64 ad] 23)).alloc (.cells #[.int .i64 bn, .int .i64 bd] 23)).alloc (.cells #[.int .i64 0, .int .i64 0] 23)) w8 := (by repeat (first | with_reducible exact Gr.refl _ | with_reducible assumption | refine Gr.setCell ?_ (by first | omega | (simp; done) | (simp; omega)) _ | refine Gr.alloc ?_ _ | refine Gr.drew ?_ | refine Gr.drewN ?_ _ | refine Gr.trans ?_ (by with_reducible assumption)))
  obtain ⟨hcL, hfL⟩ := hgL.cells
  have tL0 := hcL (w.heap.size + 2) 0 (by simp)
  have mL0 := hfL (w.heap.size + 2) 0 (by simp)
  have tL1 := hcL (w.heap.size + 2) 1 (by simp)
  have mL1 := hfL (w.heap.size + 2) 1 (by simp)
  simp [go_sem] at tL0 mL0 tL1 mL1
  simp [bodyPost, results, Tryd.results25, go_sem, tL0, mL0, tL1, mL1]
  exact (by repeat (first | refine Gr.setCell ?_ (by first | omega | (simp; done) | (simp; omega)) _ | refine Gr.alloc ?_ _ | refine Gr.drew ?_ | refine Gr.drewN ?_ _ | with_reducible assumption | with_reducible exact Gr.refl _ | refine Gr.trans ?_ (by with_reducible assumption)))

set_option maxRecDepth 100000 in
set_option maxHeartbeats 8000000 in
theorem add_core_no (an ad bn bd g α β γ S M h Q r D FN FD FE : Int) (w : World) (a1 : 1 ≤ ad) (a2 : ad ≤ 9223372036854775807) (b1 : 1 ≤ bd) (b2 : bd ≤ 9223372036854775807)
    (g1 : 1 ≤ g) (g2 : g ≤ 9223372036854775807) (h1 : 1 ≤ h) (h2 : h ≤ 9223372036854775807) (hα : ad / g = α) (hβ : bd / g = β) (hγ : bd / h = γ)
    (HA : ∀ w, Calls Tryd.prog 17 #[.agg #[.int .i64 an, .int .i64 ad]] w fun e w' => e = .returned (.bool true) ∧ Gr w w')
    (HB : ∀ w, Calls Tryd.prog 17 #[.agg #[.int .i64 bn, .int .i64 bd]] w fun e w' => e = .returned (.bool true) ∧ Gr w w')
    (HG : ∀ w, Calls Tryd.prog 33 #[.int .u64 ad, .int .u64 bd] w fun e w' => e = .returned (.int .u64 g) ∧ Gr w w')
    (HP1 : ∀ w, Calls Tryd.prog 19 #[.int .i64 an, .int .i64 β] w fun e w' => e = .returned (.agg #[.bool (wN (an * β)), .int .u64 (wH (an * β)), .int .u64 (wL (an * β))]) ∧ Gr w w')
    (HP2 : ∀ w, Calls Tryd.prog 19 #[.int .i64 bn, .int .i64 α] w fun e w' => e = .returned (.agg #[.bool (wN (bn * α)), .int .u64 (wH (bn * α)), .int .u64 (wL (bn * α))]) ∧ Gr w w')
    (HS : ∀ w, Calls Tryd.prog 20 #[.agg #[.bool (wN (an * β)), .int .u64 (wH (an * β)), .int .u64 (wL (an * β))], .agg #[.bool (wN (bn * α)), .int .u64 (wH (bn * α)), .int .u64 (wL (bn * α))]] w fun e w' => e = .returned (.agg #[.bool (wN S), .int .u64 (wH S), .int .u64 (wL S)]) ∧ Gr w w')
    (HM : ∀ w, Calls Tryd.prog 37 #[.agg #[.bool (wN S), .int .u64 (wH S), .int .u64 (wL S)], .int .u64 g] w fun e w' => e = .returned (.int .u64 M) ∧ Gr w w')
    (HG2 : ∀ w, Calls Tryd.prog 33 #[.int .u64 M, .int .u64 g] w fun e w' => e = .returned (.int .u64 h) ∧ Gr w w')
    (HD : ∀ w, Calls Tryd.prog 38 #[.agg #[.bool (wN S), .int .u64 (wH S), .int .u64 (wL S)], .int .u64 h] w fun e w' => e = .returned (.tuple #[.int .i64 Q, .int .u64 r, .bool false]) ∧ Gr w w') :
    Calls Tryd.prog 25 #[.agg #[.int .i64 an, .int .i64 ad], .agg #[.int .i64 bn, .int .i64 bd]] w fun e w' =>
      e = .returned (.tuple #[.agg #[.int .i64 0, .int .i64 0], .int .i64 2]) ∧ Gr w w' := by
  have HA := Lib.hid HA
  have HB := Lib.hid HB
  have HG := Lib.hid HG
  have HP1 := Lib.hid HP1
  have HP2 := Lib.hid HP2
  have HS := Lib.hid HS
  have HM := Lib.hid HM
  have HG2 := Lib.hid HG2
  have HD := Lib.hid HD
  have gz : (g == 0) = false := by simp; omega
  have hz : (h == 0) = false := by simp; omega
  generalize an * β = p1 at *
  generalize bn * α = p2 at *
  go_enter Tryd.func25, Tryd.ntmps25
  go_wp2_with (first
    | (go_at_call 17; with_reducible refine (HA.out _).mono ?_; rintro e w1 ⟨rfl, hg1⟩; obtain ⟨hc1, hf1⟩ := hg1.cells; have hz1 := hg1.size; (try simp at hz1); (try have hl1_0_0 : w.heap.size < w1.heap.size := by omega); (try have hm1_0_0 : w.heap.size ≤ w1.heap.size := by omega); (try have hl1_0_1 : w.heap.size + 1 < w1.heap.size := by omega); (try have hl1_0_2 : w.heap.size + 2 < w1.heap.size := by omega))
    | (go_at_call 17; with_reducible refine (HB.out _).mono ?_; rintro e w2 ⟨rfl, hg2⟩; obtain ⟨hc2, hf2⟩ := hg2.cells; have hz2 := hg2.size; (try simp at hz2); (try have hl2_0_0 : w.heap.size < w2.heap.size := by omega); (try have hm2_0_0 : w.heap.size ≤ w2.heap.size := by omega); (try have hl2_0_1 : w.heap.size + 1 < w2.heap.size := by omega); (try have hl2_0_2 : w.heap.size + 2 < w2.heap.size := by omega); (try have hl2_1_0 : w1.heap.size < w2.heap.size := by omega); (try have hm2_1_0 : w1.heap.size ≤ w2.heap.size := by omega); (try have hl2_1_1 : w1.heap.size + 1 < w2.heap.size := by omega); (try have hl2_1_2 : w1.heap.size + 2 < w2.heap.size := by omega))
    | (go_at_call 33; with_reducible refine (HG.out _).mono ?_; rintro e w3 ⟨rfl, hg3⟩; obtain ⟨hc3, hf3⟩ := hg3.cells; have hz3 := hg3.size; (try simp at hz3); (try have hl3_0_0 : w.heap.size < w3.heap.size := by omega); (try have hm3_0_0 : w.heap.size ≤ w3.heap.size := by omega); (try have hl3_0_1 : w.heap.size + 1 < w3.heap.size := by omega); (try have hl3_0_2 : w.heap.size + 2 < w3.heap.size := by omega); (try have hl3_1_0 : w1.heap.size < w3.heap.size := by omega); (try have hm3_1_0 : w1.heap.size ≤ w3.heap.size := by omega); (try have hl3_1_1 : w1.heap.size + 1 < w3.heap.size := by omega); (try have hl3_1_2 : w1.heap.size + 2 < w3.heap.size := by omega); (try have hl3_2_0 : w2.heap.size < w3.heap.size := by omega); (try have hm3_2_0 : w2.heap.size ≤ w3.heap.size := by omega); (try have hl3_2_1 : w2.heap.size + 1 < w3.heap.size := by omega); (try have hl3_2_2 : w2.heap.size + 2 < w3.heap.size := by omega)))
  refine wp_region_made1 15 (.cells #[.bool false, .int .u64 0, .int .u64 0] 43) _ (by kernel_rfl) (by kernel_rfl) rfl rfl (fun a w => by simp [execOp, go_sem]) (fun B hB hq1 hq2 => ?_)
  simp only [List.take_succ_cons, List.take_zero, List.drop_succ_cons, List.drop_zero]
  repeat (first | go_big_quiet_skip | (go_big_quiet_want; go_big_quiet_op; first | go_big_quiet_on | (apply Exists.intro; refine ⟨fun _ => ?_, ?_⟩; (· (first | (go_at_call 19; with_reducible exact gr_call (HP1.out _)) | (go_at_call 19; with_reducible exact gr_call (HP2.out _)) | (go_at_call 20; exact gr_call (HS.out _)))); go_big_quiet_on)))
  refine wpQuiet_nil ?_
  clear hq1 hq2 hB
  rintro G w4 hg4 hs4_G hb4_G
  obtain ⟨hc4, hf4⟩ := hg4.cells
  have hz4 := hg4.size
  (try simp at hz4); (try have hl4_0_0 : w.heap.size < w4.heap.size := by omega); (try have hm4_0_0 : w.heap.size ≤ w4.heap.size := by omega); (try have hl4_0_1 : w.heap.size + 1 < w4.heap.size := by omega); (try have hl4_0_2 : w.heap.size + 2 < w4.heap.size := by omega); (try have hl4_1_0 : w1.heap.size < w4.heap.size := by omega); (try have hm4_1_0 : w1.heap.size ≤ w4.heap.size := by omega); (try have hl4_1_1 : w1.heap.size + 1 < w4.heap.size := by omega); (try have hl4_1_2 : w1.heap.size + 2 < w4.heap.size := by omega); (try have hl4_2_0 : w2.heap.size < w4.heap.size := by omega); (try have hm4_2_0 : w2.heap.size ≤ w4.heap.size := by omega); (try have hl4_2_1 : w2.heap.size + 1 < w4.heap.size := by omega); (try have hl4_2_2 : w2.heap.size + 2 < w4.heap.size := by omega); (try have hl4_3_0 : w3.heap.size < w4.heap.size := by omega); (try have hm4_3_0 : w3.heap.size ≤ w4.heap.size := by omega); (try have hl4_3_1 : w3.heap.size + 1 < w4.heap.size := by omega); (try have hl4_3_2 : w3.heap.size + 2 < w4.heap.size := by omega)
  (try simp at hs4_G)
  have hx4_G : G < w4.heap.size := lt_of_block hb4_G
  have hy4_G_0 := cells_of_block hb4_G 0
  have hv4_G_0 := mark_of_block hb4_G 0
  have hy4_G_1 := cells_of_block hb4_G 1
  have hv4_G_1 := mark_of_block hb4_G 1
  have hy4_G_2 := cells_of_block hb4_G 2
  have hv4_G_2 := mark_of_block hb4_G 2
  simp at hy4_G_0 hy4_G_1 hy4_G_2
  go_wp2_with fail
  refine calls_gen (R := fun W => w.heap.size + 2 < W.heap.size ∧ G < W.heap.size ∧ W.cell? ⟨G, 0, none⟩ = some (.bool (wN S)) ∧ W.cell? ⟨G, 1, none⟩ = some (.int .u64 (wH S)) ∧ W.cell? ⟨G, 2, none⟩ = some (.int .u64 (wL S)) ∧ Gr (((w.alloc (.cells #[.int .i64 an, .int .i64 ad] 23)).alloc (.cells #[.int .i64 bn, .int .i64 bd] 23)).alloc (.cells #[.int .i64 0, .int .i64 0] 23)) W) ?_ ?_
  · have hb : Gr (((w.alloc (.cells #[.int .i64 an, .int .i64 ad] 23)).alloc (.cells #[.int .i64 bn, .int .i64 bd] 23)).alloc (.cells #[.int .i64 0, .int .i64 0] 23)) w4 := hg1.trans (hg2.trans (hg3.trans hg4))
    refine ⟨by simp; omega, by simp; omega, by simp [go_sem, hy4_G_0, hy4_G_1, hy4_G_2], by simp [go_sem, hy4_G_0, hy4_G_1, hy4_G_2], by simp [go_sem, hy4_G_0, hy4_G_1, hy4_G_2], ?_⟩
    exact ((hb.setCell (by simp; omega) _).setCell (by simp; omega) _).setCell (by simp; omega) _
  clear hy4_G_0 hy4_G_1 hy4_G_2 hv4_G_0 hv4_G_1 hv4_G_2 hb4_G hc1 hc2 hc3 hc4 hf1 hf2 hf3 hf4
  rintro W ⟨hlW, hxW, hyW_G_0, hyW_G_1, hyW_G_2, hgW⟩
  obtain ⟨hcW, hfW⟩ := hgW.cells
  have hlW0 : w.heap.size < W.heap.size := by omega
  have hlW1 : w.heap.size + 1 < W.heap.size := by omega
  with_reducible refine (HM.out _).mono ?_
  rintro e w5 ⟨rfl, hg5⟩
  obtain ⟨hc5, hf5⟩ := hg5.cells
  have hz5 := hg5.size
  have hl5_0_0 : w.heap.size < w5.heap.size := by omega
  have hl5_0_1 : w.heap.size + 1 < w5.heap.size := by omega
  have hl5_0_2 : w.heap.size + 2 < w5.heap.size := by omega
  have hx5 : G < w5.heap.size := by omega
  go_wp2_with (first
    | ((go_at_call 33; with_reducible refine (HG2.out _).mono ?_; rintro e w6 ⟨rfl, hg6⟩; obtain ⟨hc6, hf6⟩ := hg6.cells; have hz6 := hg6.size; (try simp at hz6); (try have hl6_0_0 : w.heap.size < w6.heap.size := by omega); (try have hm6_0_0 : w.heap.size ≤ w6.heap.size := by omega); (try have hl6_0_1 : w.heap.size + 1 < w6.heap.size := by omega); (try have hl6_0_2 : w.heap.size + 2 < w6.heap.size := by omega); (try have hl6_1_0 : w1.heap.size < w6.heap.size := by omega); (try have hm6_1_0 : w1.heap.size ≤ w6.heap.size := by omega); (try have hl6_1_1 : w1.heap.size + 1 < w6.heap.size := by omega); (try have hl6_1_2 : w1.heap.size + 2 < w6.heap.size := by omega); (try have hl6_2_0 : w2.heap.size < w6.heap.size := by omega); (try have hm6_2_0 : w2.heap.size ≤ w6.heap.size := by omega); (try have hl6_2_1 : w2.heap.size + 1 < w6.heap.size := by omega); (try have hl6_2_2 : w2.heap.size + 2 < w6.heap.size := by omega); (try have hl6_3_0 : w3.heap.size < w6.heap.size := by omega); (try have hm6_3_0 : w3.heap.size ≤ w6.heap.size := by omega); (try have hl6_3_1 : w3.heap.size + 1 < w6.heap.size := by omega); (try have hl6_3_2 : w3.heap.size + 2 < w6.heap.size := by omega); (try have hl6_4_0 : w4.heap.size < w6.heap.size := by omega); (try have hm6_4_0 : w4.heap.size ≤ w6.heap.size := by omega); (try have hl6_4_1 : w4.heap.size + 1 < w6.heap.size := by omega); (try have hl6_4_2 : w4.heap.size + 2 < w6.heap.size := by omega); (try have hl6_5_0 : w5.heap.size < w6.heap.size := by omega); (try have hm6_5_0 : w5.heap.size ≤ w6.heap.size := by omega); (try have hl6_5_1 : w5.heap.size + 1 < w6.heap.size := by omega); (try have hl6_5_2 : w5.heap.size + 2 < w6.heap.size := by omega)); have hx6 : G < w6.heap.size := (by omega))
    | ((go_at_call 38; with_reducible refine (HD.out _).mono ?_; rintro e w7 ⟨rfl, hg7⟩; obtain ⟨hc7, hf7⟩ := hg7.cells; have hz7 := hg7.size; (try simp at hz7); (try have hl7_0_0 : w.heap.size < w7.heap.size := by omega); (try have hm7_0_0 : w.heap.size ≤ w7.heap.size := by omega); (try have hl7_0_1 : w.heap.size + 1 < w7.heap.size := by omega); (try have hl7_0_2 : w.heap.size + 2 < w7.heap.size := by omega); (try have hl7_1_0 : w1.heap.size < w7.heap.size := by omega); (try have hm7_1_0 : w1.heap.size ≤ w7.heap.size := by omega); (try have hl7_1_1 : w1.heap.size + 1 < w7.heap.size := by omega); (try have hl7_1_2 : w1.heap.size + 2 < w7.heap.size := by omega); (try have hl7_2_0 : w2.heap.size < w7.heap.size := by omega); (try have hm7_2_0 : w2.heap.size ≤ w7.heap.size := by omega); (try have hl7_2_1 : w2.heap.size + 1 < w7.heap.size := by omega); (try have hl7_2_2 : w2.heap.size + 2 < w7.heap.size := by omega); (try have hl7_3_0 : w3.heap.size < w7.heap.size := by omega); (try have hm7_3_0 : w3.heap.size ≤ w7.heap.size := by omega); (try have hl7_3_1 : w3.heap.size + 1 < w7.heap.size := by omega); (try have hl7_3_2 : w3.heap.size + 2 < w7.heap.size := by omega); (try have hl7_4_0 : w4.heap.size < w7.heap.size := by omega); (try have hm7_4_0 : w4.heap.size ≤ w7.heap.size := by omega); (try have hl7_4_1 : w4.heap.size + 1 < w7.heap.size := by omega); (try have hl7_4_2 : w4.heap.size + 2 < w7.heap.size := by omega); (try have hl7_5_0 : w5.heap.size < w7.heap.size := by omega); (try have hm7_5_0 : w5.heap.size ≤ w7.heap.size := by omega); (try have hl7_5_1 : w5.heap.size + 1 < w7.heap.size := by omega); (try have hl7_5_2 : w5.heap.size + 2 < w7.heap.size := by omega); (try have hl7_6_0 : w6.heap.size < w7.heap.size := by omega); (try have hm7_6_0 : w6.heap.size ≤ w7.heap.size := by omega); (try have hl7_6_1 : w6.heap.size + 1 < w7.heap.size := by omega); (try have hl7_6_2 : w6.heap.size + 2 < w7.heap.size := by omega)); have hx7 : G < w7.heap.size := (by omega)))
  have hgL : Gr (((w.alloc (.cells #[.int .i64 an, .int .i64 ad] 23)).alloc (.cells #[.int .i64 bn, .int .i64 bd] 23)).alloc (.cells #[.int .i64 0, .int .i64 0] 23)) w7 := (by repeat (first | with_reducible exact Gr.refl _ | with_reducible assumption | refine Gr.setCell ?_ (by first | omega | (simp; done) | (simp; omega)) _ | refine Gr.alloc ?_ _ | refine Gr.drew ?_ | refine Gr.drewN ?_ _ | refine Gr.trans ?_ (by with_reducible assumption)))
  obtain ⟨hcL, hfL⟩ := hgL.cells
  have tL0 := hcL (w.heap.size + 2) 0 (by simp)
  have mL0 := hfL (w.heap.size + 2) 0 (by simp)
  have tL1 := hcL (w.heap.size + 2) 1 (by simp)
  have mL1 := hfL (w.heap.size + 2) 1 (by simp)
  simp [go_sem] at tL0 mL0 tL1 mL1
  simp [bodyPost, results, Tryd.results25, go_sem, tL0, mL0, tL1, mL1]
  exact (by repeat (first | refine Gr.setCell ?_ (by first | omega | (simp; done) | (simp; omega)) _ | refine Gr.alloc ?_ _ | refine Gr.drew ?_ | refine Gr.drewN ?_ _ | with_reducible assumption | with_reducible exact Gr.refl _ | refine Gr.trans ?_ (by with_reducible assumption)))
end Go.Proofs.YtclfiaemjdflbaaDoor
