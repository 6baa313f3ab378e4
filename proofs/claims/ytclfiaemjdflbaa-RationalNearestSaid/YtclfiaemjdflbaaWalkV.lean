/-
  Contract of Mul of the reference, out of its parts.
  Conditions: the arguments are integers of their kinds.
-/
import Derived.Test.YtclfiaemjdflbaaWalkR
namespace Go.Proofs.Ytclfiaemjdflbaa
open Go.RowKit
set_option linter.unusedSimpArgs false
set_option linter.unusedVariables false

set_option maxRecDepth 100000 in
set_option maxHeartbeats 8000000 in
theorem rmul_core (an ad bn bd g h uh ul dh dl RN RD RE : Int) (w : World) (a1 : 1 ≤ ad) (a2 : ad ≤ 9223372036854775807) (b1 : 1 ≤ bd) (b2 : bd ≤ 9223372036854775807) (an1 : I64 an) (bn1 : I64 bn)
    (g1 : 1 ≤ g) (g2 : g ≤ 9223372036854775807) (h1 : 1 ≤ h) (h2 : h ≤ 9223372036854775807) (u1 : 0 ≤ uh) (u2 : uh < 18446744073709551616) (u3 : 0 ≤ ul) (u4 : ul < 18446744073709551616) (v1 : 0 ≤ dh) (v2 : dh < 18446744073709551616) (v3 : 0 ≤ dl) (v4 : dl < 18446744073709551616)
    (HA : ∀ w, Calls Try.prog 16 #[.agg #[.int .i64 an, .int .i64 ad]] w fun e w' => e = .returned (.bool true) ∧ Gr w w')
    (HB : ∀ w, Calls Try.prog 16 #[.agg #[.int .i64 bn, .int .i64 bd]] w fun e w' => e = .returned (.bool true) ∧ Gr w w')
    (HG : ∀ w, Calls Try.prog 38 #[.int .u64 (mg an), .int .u64 bd] w fun e w' => e = .returned (.int .u64 g) ∧ Gr w w')
    (HH : ∀ w, Calls Try.prog 38 #[.int .u64 (mg bn), .int .u64 ad] w fun e w' => e = .returned (.int .u64 h) ∧ Gr w w')
    (HT : ∀ w, Calls Try.prog 44 #[.int .u64 (mg an / g), .int .u64 (mg bn / h)] w fun e w' => e = .returned (.agg #[.int .u64 uh, .int .u64 ul]) ∧ Gr w w')
    (HU : ∀ w, Calls Try.prog 44 #[.int .u64 (ad / h), .int .u64 (bd / g)] w fun e w' => e = .returned (.agg #[.int .u64 dh, .int .u64 dl]) ∧ Gr w w')
    (hcase : (0 < uh ∧ RN = 0 ∧ RD = 0 ∧ RE = 2) ∨ (uh = 0 ∧ 0 < dh ∧ RN = 0 ∧ RD = 0 ∧ RE = 2) ∨
      (uh = 0 ∧ dh = 0 ∧ ∃ neg : Bool, ((ul = 0 ∧ neg = false) ∨ (0 < ul ∧ neg = (decide (an < 0) != decide (bn < 0)))) ∧ ∀ w, Calls Try.prog 40 #[.bool neg, .int .u64 ul, .int .u64 dl] w fun e w' => e = .returned (.tuple #[.agg #[.int .i64 RN, .int .i64 RD], .int .i64 RE]) ∧ Gr w w')) :
    Calls Try.prog 26 #[.agg #[.int .i64 an, .int .i64 ad], .agg #[.int .i64 bn, .int .i64 bd]] w fun e w' => e = .returned (.tuple #[.agg #[.int .i64 RN, .int .i64 RD], .int .i64 RE]) ∧ Gr w w' := by
  have HA := Lib.hid HA
  have HB := Lib.hid HB
  have HG := Lib.hid HG
  have HH := Lib.hid HH
  have HT := Lib.hid HT
  have HU := Lib.hid HU
  have HC := Lib.hid hcase
  have HX := Lib.hid (fun w => mag_any an w an1.1 an1.2)
  have HY := Lib.hid (fun w => mag_any bn w bn1.1 bn1.2)
  obtain ⟨an1, an2⟩ := an1
  obtain ⟨bn1, bn2⟩ := bn1
  have gz : (g == 0) = false := by simp; omega
  have hz : (h == 0) = false := by simp; omega
  have ma := mg_nonneg an
  have mb := mg_nonneg bn
  have ma2 := mg_le an an1 an2
  have mb2 := mg_le bn bn1 bn2
  obtain ⟨qa, hqa⟩ : ∃ q, mg an / g = q := ⟨_, rfl⟩
  obtain ⟨qb, hqb⟩ : ∃ q, mg bn / h = q := ⟨_, rfl⟩
  rw [hqa, hqb] at HT
  clear hcase
  go_enter Try.func26, Try.ntmps26
  go_wp2_with (first
    | (go_at_call 16; with_reducible refine (HA.out _).mono ?_; rintro e w1 ⟨rfl, hg1⟩; obtain ⟨hc1, hf1⟩ := hg1.cells; have hz1 := hg1.size; (try simp at hz1); (try have hl1_0_0 : w.heap.size < w1.heap.size := by omega); (try have hm1_0_0 : w.heap.size ≤ w1.heap.size := by omega); (try have hl1_0_1 : w.heap.size + 1 < w1.heap.size := by omega); (try have hl1_0_2 : w.heap.size + 2 < w1.heap.size := by omega))
    | (go_at_call 16; with_reducible refine (HB.out _).mono ?_; rintro e w2 ⟨rfl, hg2⟩; obtain ⟨hc2, hf2⟩ := hg2.cells; have hz2 := hg2.size; (try simp at hz2); (try have hl2_0_0 : w.heap.size < w2.heap.size := by omega); (try have hm2_0_0 : w.heap.size ≤ w2.heap.size := by omega); (try have hl2_0_1 : w.heap.size + 1 < w2.heap.size := by omega); (try have hl2_0_2 : w.heap.size + 2 < w2.heap.size := by omega); (try have hl2_1_0 : w1.heap.size < w2.heap.size := by omega); (try have hm2_1_0 : w1.heap.size ≤ w2.heap.size := by omega); (try have hl2_1_1 : w1.heap.size + 1 < w2.heap.size := by omega); (try have hl2_1_2 : w1.heap.size + 2 < w2.heap.size := by omega)))
  refine wp_region_gr (by kernel_rfl) (by kernel_rfl) (fun hq1 hq2 => ?_)
  repeat (first | go_big_quiet_skip | (go_big_quiet_want; go_big_quiet_op; first | go_big_quiet_on | (apply Exists.intro; refine ⟨fun _ => ?_, ?_⟩; (· (first | (go_at_call 39; with_reducible exact gr_call_same (HX.out _)) | (go_at_call 39; with_reducible exact gr_call_same (HY.out _)) | (go_at_call 38; with_reducible exact gr_call (HG.out _)) | (go_at_call 38; with_reducible exact gr_call (HH.out _)))); go_big_quiet_on)))
  refine wpQuiet_nil ?_
  clear hq1 hq2
  rintro w3 ⟨⟨_, hg3⟩, rfl⟩
  obtain ⟨hc3, hf3⟩ := hg3.cells
  have hz3 := hg3.size
  (try simp at hz3); (try have hl3_0_0 : w.heap.size < w3.heap.size := by omega); (try have hm3_0_0 : w.heap.size ≤ w3.heap.size := by omega); (try have hl3_0_1 : w.heap.size + 1 < w3.heap.size := by omega); (try have hl3_0_2 : w.heap.size + 2 < w3.heap.size := by omega); (try have hl3_1_0 : w1.heap.size < w3.heap.size := by omega); (try have hm3_1_0 : w1.heap.size ≤ w3.heap.size := by omega); (try have hl3_1_1 : w1.heap.size + 1 < w3.heap.size := by omega); (try have hl3_1_2 : w1.heap.size + 2 < w3.heap.size := by omega); (try have hl3_2_0 : w2.heap.size < w3.heap.size := by omega); (try have hm3_2_0 : w2.heap.size ≤ w3.heap.size := by omega); (try have hl3_2_1 : w2.heap.size + 1 < w3.heap.size := by omega); (try have hl3_2_2 : w2.heap.size + 2 < w3.heap.size := by omega)
  go_wp2_with fail
  refine wp_region_made1 11 (.cells #[.int .u64 0, .int .u64 0] 56) _ (by kernel_rfl) (by kernel_rfl) rfl rfl (fun a w => by simp [execOp, go_sem]) (fun B hB hq1 hq2 => ?_)
  simp only [List.take_succ_cons, List.take_zero, List.drop_succ_cons, List.drop_zero]
  repeat (first | go_big_quiet_skip | (go_big_quiet_want; go_big_quiet_op; first | go_big_quiet_on | (apply Exists.intro; refine ⟨fun _ => ?_, ?_⟩; (· (first | (go_at_call 39; with_reducible exact gr_call_same (HX.out _)) | (go_at_call 39; with_reducible exact gr_call_same (HY.out _)) | (go_at_call 44; with_reducible exact gr_call (HT.out _)))); go_big_quiet_on)))
  refine wpQuiet_nil ?_
  clear hq1 hq2 hB
  rintro G w4 hg4 hs4_G hb4_G
  obtain ⟨hc4, hf4⟩ := hg4.cells
  have hz4 := hg4.size
  (try simp at hz4); (try have hl4_0_0 : w.heap.size < w4.heap.size := by omega); (try have hm4_0_0 : w.heap.size ≤ w4.heap.size := by omega); (try have hl4_0_1 : w.heap.size + 1 < w4.heap.size := by omega); (try have hl4_0_2 : w.heap.size + 2 < w4.heap.size := by omega); (try have hl4_1_0 : w1.heap.size < w4.heap.size := by omega); (try have hm4_1_0 : w1.heap.size ≤ w4.heap.size := by omega); (try have hl4_1_1 : w1.heap.size + 1 < w4.heap.size := by omega); (try have hl4_1_2 : w1.heap.size + 2 < w4.heap.size := by omega); (try have hl4_2_0 : w2.heap.size < w4.heap.size := by omega); (try have hm4_2_0 : w2.heap.size ≤ w4.heap.size := by omega); (try have hl4_2_1 : w2.heap.size + 1 < w4.heap.size := by omega); (try have hl4_2_2 : w2.heap.size + 2 < w4.heap.size := by omega); (try have hl4_3_0 : w3.heap.size < w4.heap.size := by omega); (try have hm4_3_0 : w3.heap.size ≤ w4.heap.size := by omega); (try have hl4_3_1 : w3.heap.size + 1 < w4.heap.size := by omega); (try have hl4_3_2 : w3.heap.size + 2 < w4.heap.size := by omega)
  (try simp at hs4_G)
  have hx4_G : G < w4.heap.size := lt_of_block hb4_G
  have hy4_G_0 := cells_of_block hb4_G 0
  have hv4_G_0 := mark_of_block hb4_G 0
  have hy4_G_1 := cells_of_block hb4_G 1
  have hv4_G_1 := mark_of_block hb4_G 1
  simp at hy4_G_0 hy4_G_1
  go_wp2_with fail
  refine wp_gen (R := fun W => w.heap.size + 2 < W.heap.size ∧ G < W.heap.size ∧ W.cell? ⟨G, 0, none⟩ = some (.int .u64 uh) ∧ W.cell? ⟨G, 1, none⟩ = some (.int .u64 ul) ∧ Gr (((w.alloc (.cells #[.int .i64 an, .int .i64 ad] 23)).alloc (.cells #[.int .i64 bn, .int .i64 bd] 23)).alloc (.cells #[.int .i64 0, .int .i64 0] 23)) W) ?_ ?_
  · have hb : Gr (((w.alloc (.cells #[.int .i64 an, .int .i64 ad] 23)).alloc (.cells #[.int .i64 bn, .int .i64 bd] 23)).alloc (.cells #[.int .i64 0, .int .i64 0] 23)) w4 := hg1.trans (hg2.trans (hg3.trans hg4))
    refine ⟨by simp; omega, by simp; omega, by simp [go_sem, hy4_G_0, hy4_G_1], by simp [go_sem, hy4_G_0, hy4_G_1], ?_⟩
    exact (hb.setCell (by simp; omega) _).setCell (by simp; omega) _
  have hGl : w.heap.size + 2 < G := by omega
  clear hy4_G_0 hy4_G_1 hv4_G_0 hv4_G_1 hb4_G hc1 hc2 hc3 hc4 hf1 hf2 hf3 hf4
  rintro W ⟨hlW, hxW, hyW_G_0, hyW_G_1, hgW⟩
  obtain ⟨hcW, hfW⟩ := hgW.cells
  have hlW0 : w.heap.size < W.heap.size := by omega
  have hlW1 : w.heap.size + 1 < W.heap.size := by omega
  refine wp_region_made1 11 (.cells #[.int .u64 0, .int .u64 0] 56) _ (by kernel_rfl) (by kernel_rfl) rfl rfl (fun a w => by simp [execOp, go_sem]) (fun B hB hq1 hq2 => ?_)
  simp only [List.take_succ_cons, List.take_zero, List.drop_succ_cons, List.drop_zero]
  repeat (first | go_big_quiet_skip | (go_big_quiet_want; go_big_quiet_op; first | go_big_quiet_on | (apply Exists.intro; refine ⟨fun _ => ?_, ?_⟩; (· ((go_at_call 44; with_reducible exact gr_call (HU.out _)))); go_big_quiet_on)))
  refine wpQuiet_nil ?_
  clear hq1 hq2 hB
  rintro K w5 hg5 hs5_K hb5_K
  obtain ⟨hc5, hf5⟩ := hg5.cells
  have hz5 := hg5.size
  (try simp at hz5); (try have hl5_0_0 : w.heap.size < w5.heap.size := by omega); (try have hm5_0_0 : w.heap.size ≤ w5.heap.size := by omega); (try have hl5_0_1 : w.heap.size + 1 < w5.heap.size := by omega); (try have hl5_0_2 : w.heap.size + 2 < w5.heap.size := by omega); (try have hl5_1_0 : w1.heap.size < w5.heap.size := by omega); (try have hm5_1_0 : w1.heap.size ≤ w5.heap.size := by omega); (try have hl5_1_1 : w1.heap.size + 1 < w5.heap.size := by omega); (try have hl5_1_2 : w1.heap.size + 2 < w5.heap.size := by omega); (try have hl5_2_0 : w2.heap.size < w5.heap.size := by omega); (try have hm5_2_0 : w2.heap.size ≤ w5.heap.size := by omega); (try have hl5_2_1 : w2.heap.size + 1 < w5.heap.size := by omega); (try have hl5_2_2 : w2.heap.size + 2 < w5.heap.size := by omega); (try have hl5_3_0 : w3.heap.size < w5.heap.size := by omega); (try have hm5_3_0 : w3.heap.size ≤ w5.heap.size := by omega); (try have hl5_3_1 : w3.heap.size + 1 < w5.heap.size := by omega); (try have hl5_3_2 : w3.heap.size + 2 < w5.heap.size := by omega); (try have hl5_4_0 : w4.heap.size < w5.heap.size := by omega); (try have hm5_4_0 : w4.heap.size ≤ w5.heap.size := by omega); (try have hl5_4_1 : w4.heap.size + 1 < w5.heap.size := by omega); (try have hl5_4_2 : w4.heap.size + 2 < w5.heap.size := by omega)
  (try simp at hs5_K)
  have hx5_K : K < w5.heap.size := lt_of_block hb5_K
  have hy5_K_0 := cells_of_block hb5_K 0
  have hv5_K_0 := mark_of_block hb5_K 0
  have hy5_K_1 := cells_of_block hb5_K 1
  have hv5_K_1 := mark_of_block hb5_K 1
  simp at hy5_K_0 hy5_K_1
  have hKl : w.heap.size + 2 < K := by omega
  rcases HC.out with ⟨hu, rfl, rfl, rfl⟩ | ⟨rfl, hu, rfl, rfl, rfl⟩ | ⟨rfl, rfl, neg, hneg, HM⟩
  · clear HC
    go_wp2_with fail
    have hgL : Gr (((w.alloc (.cells #[.int .i64 an, .int .i64 ad] 23)).alloc (.cells #[.int .i64 bn, .int .i64 bd] 23)).alloc (.cells #[.int .i64 0, .int .i64 0] 23)) ((w5.setCell ⟨K, 0, none⟩ (.int .u64 dh)).setCell ⟨K, 1, none⟩ (.int .u64 dl)) := (by repeat (first | with_reducible exact Gr.refl _ | with_reducible assumption | refine Gr.setCell ?_ (by first | omega | (simp; done) | (simp; omega)) _ | refine Gr.alloc ?_ _ | refine Gr.drew ?_ | refine Gr.drewN ?_ _ | refine Gr.trans ?_ (by with_reducible assumption)))
    obtain ⟨hcL, hfL⟩ := hgL.cells
    have tL0 := hcL (w.heap.size + 2) 0 (by simp)
    have mL0 := hfL (w.heap.size + 2) 0 (by simp)
    have tL1 := hcL (w.heap.size + 2) 1 (by simp)
    have mL1 := hfL (w.heap.size + 2) 1 (by simp)
    simp [go_sem] at tL0 mL0 tL1 mL1
    simp [bodyPost, results, Try.results26, go_sem, tL0, mL0, tL1, mL1]
    exact (by repeat (first | refine Gr.setCell ?_ (by first | omega | (simp; done) | (simp; omega)) _ | refine Gr.alloc ?_ _ | refine Gr.drew ?_ | refine Gr.drewN ?_ _ | with_reducible assumption | with_reducible exact Gr.refl _ | refine Gr.trans ?_ (by with_reducible assumption)))
  · clear HC
    go_wp2_with fail
    have hgL : Gr (((w.alloc (.cells #[.int .i64 an, .int .i64 ad] 23)).alloc (.cells #[.int .i64 bn, .int .i64 bd] 23)).alloc (.cells #[.int .i64 0, .int .i64 0] 23)) ((w5.setCell ⟨K, 0, none⟩ (.int .u64 dh)).setCell ⟨K, 1, none⟩ (.int .u64 dl)) := (by repeat (first | with_reducible exact Gr.refl _ | with_reducible assumption | refine Gr.setCell ?_ (by first | omega | (simp; done) | (simp; omega)) _ | refine Gr.alloc ?_ _ | refine Gr.drew ?_ | refine Gr.drewN ?_ _ | refine Gr.trans ?_ (by with_reducible assumption)))
    obtain ⟨hcL, hfL⟩ := hgL.cells
    have tL0 := hcL (w.heap.size + 2) 0 (by simp)
    have mL0 := hfL (w.heap.size + 2) 0 (by simp)
    have tL1 := hcL (w.heap.size + 2) 1 (by simp)
    have mL1 := hfL (w.heap.size + 2) 1 (by simp)
    simp [go_sem] at tL0 mL0 tL1 mL1
    simp [bodyPost, results, Try.results26, go_sem, tL0, mL0, tL1, mL1]
    exact (by repeat (first | refine Gr.setCell ?_ (by first | omega | (simp; done) | (simp; omega)) _ | refine Gr.alloc ?_ _ | refine Gr.drew ?_ | refine Gr.drewN ?_ _ | with_reducible assumption | with_reducible exact Gr.refl _ | refine Gr.trans ?_ (by with_reducible assumption)))
  · clear HC
    have HM := Lib.hid HM
    rcases hneg with ⟨rfl, rfl⟩ | ⟨hu, hneg⟩
    · go_wp2_with (go_at_call 40; with_reducible refine (HM.out _).mono ?_; rintro e w6 ⟨rfl, hg6⟩; obtain ⟨hc6, hf6⟩ := hg6.cells; have hz6 := hg6.size; (try simp at hz6); (try have hl6_0_0 : w.heap.size < w6.heap.size := by omega); (try have hm6_0_0 : w.heap.size ≤ w6.heap.size := by omega); (try have hl6_0_1 : w.heap.size + 1 < w6.heap.size := by omega); (try have hl6_0_2 : w.heap.size + 2 < w6.heap.size := by omega); (try have hl6_1_0 : w1.heap.size < w6.heap.size := by omega); (try have hm6_1_0 : w1.heap.size ≤ w6.heap.size := by omega); (try have hl6_1_1 : w1.heap.size + 1 < w6.heap.size := by omega); (try have hl6_1_2 : w1.heap.size + 2 < w6.heap.size := by omega); (try have hl6_2_0 : w2.heap.size < w6.heap.size := by omega); (try have hm6_2_0 : w2.heap.size ≤ w6.heap.size := by omega); (try have hl6_2_1 : w2.heap.size + 1 < w6.heap.size := by omega); (try have hl6_2_2 : w2.heap.size + 2 < w6.heap.size := by omega); (try have hl6_3_0 : w3.heap.size < w6.heap.size := by omega); (try have hm6_3_0 : w3.heap.size ≤ w6.heap.size := by omega); (try have hl6_3_1 : w3.heap.size + 1 < w6.heap.size := by omega); (try have hl6_3_2 : w3.heap.size + 2 < w6.heap.size := by omega); (try have hl6_4_0 : w4.heap.size < w6.heap.size := by omega); (try have hm6_4_0 : w4.heap.size ≤ w6.heap.size := by omega); (try have hl6_4_1 : w4.heap.size + 1 < w6.heap.size := by omega); (try have hl6_4_2 : w4.heap.size + 2 < w6.heap.size := by omega); (try have hl6_5_0 : w5.heap.size < w6.heap.size := by omega); (try have hm6_5_0 : w5.heap.size ≤ w6.heap.size := by omega); (try have hl6_5_1 : w5.heap.size + 1 < w6.heap.size := by omega); (try have hl6_5_2 : w5.heap.size + 2 < w6.heap.size := by omega))
      have hgL : Gr (((w.alloc (.cells #[.int .i64 an, .int .i64 ad] 23)).alloc (.cells #[.int .i64 bn, .int .i64 bd] 23)).alloc (.cells #[.int .i64 0, .int .i64 0] 23)) w6 := (by repeat (first | with_reducible exact Gr.refl _ | with_reducible assumption | refine Gr.setCell ?_ (by first | omega | (simp; done) | (simp; omega)) _ | refine Gr.alloc ?_ _ | refine Gr.drew ?_ | refine Gr.drewN ?_ _ | refine Gr.trans ?_ (by with_reducible assumption)))
      obtain ⟨hcL, hfL⟩ := hgL.cells
      have tL0 := hcL (w.heap.size + 2) 0 (by simp)
      have mL0 := hfL (w.heap.size + 2) 0 (by simp)
      have tL1 := hcL (w.heap.size + 2) 1 (by simp)
      have mL1 := hfL (w.heap.size + 2) 1 (by simp)
      simp [go_sem] at tL0 mL0 tL1 mL1
      simp [bodyPost, results, Try.results26, go_sem, tL0, mL0, tL1, mL1]
      exact (by repeat (first | refine Gr.setCell ?_ (by first | omega | (simp; done) | (simp; omega)) _ | refine Gr.alloc ?_ _ | refine Gr.drew ?_ | refine Gr.drewN ?_ _ | with_reducible assumption | with_reducible exact Gr.refl _ | refine Gr.trans ?_ (by with_reducible assumption)))
    · rcases (show (an < 0 ∧ bn < 0) ∨ (an < 0 ∧ 0 ≤ bn) ∨ (0 ≤ an ∧ bn < 0) ∨ (0 ≤ an ∧ 0 ≤ bn) by omega) with ⟨sa, sb⟩ | ⟨sa, sb⟩ | ⟨sa, sb⟩ | ⟨sa, sb⟩
      · have dx : decide (an < 0) = true := by simp; omega
        have dn : decide (bn < 0) = true := by simp; omega
        obtain rfl : neg = false := by rw [hneg, dx, dn]; rfl
        clear hneg
        go_wp2_with (go_at_call 40; with_reducible refine (HM.out _).mono ?_; rintro e w6 ⟨rfl, hg6⟩; obtain ⟨hc6, hf6⟩ := hg6.cells; have hz6 := hg6.size; (try simp at hz6); (try have hl6_0_0 : w.heap.size < w6.heap.size := by omega); (try have hm6_0_0 : w.heap.size ≤ w6.heap.size := by omega); (try have hl6_0_1 : w.heap.size + 1 < w6.heap.size := by omega); (try have hl6_0_2 : w.heap.size + 2 < w6.heap.size := by omega); (try have hl6_1_0 : w1.heap.size < w6.heap.size := by omega); (try have hm6_1_0 : w1.heap.size ≤ w6.heap.size := by omega); (try have hl6_1_1 : w1.heap.size + 1 < w6.heap.size := by omega); (try have hl6_1_2 : w1.heap.size + 2 < w6.heap.size := by omega); (try have hl6_2_0 : w2.heap.size < w6.heap.size := by omega); (try have hm6_2_0 : w2.heap.size ≤ w6.heap.size := by omega); (try have hl6_2_1 : w2.heap.size + 1 < w6.heap.size := by omega); (try have hl6_2_2 : w2.heap.size + 2 < w6.heap.size := by omega); (try have hl6_3_0 : w3.heap.size < w6.heap.size := by omega); (try have hm6_3_0 : w3.heap.size ≤ w6.heap.size := by omega); (try have hl6_3_1 : w3.heap.size + 1 < w6.heap.size := by omega); (try have hl6_3_2 : w3.heap.size + 2 < w6.heap.size := by omega); (try have hl6_4_0 : w4.heap.size < w6.heap.size := by omega); (try have hm6_4_0 : w4.heap.size ≤ w6.heap.size := by omega); (try have hl6_4_1 : w4.heap.size + 1 < w6.heap.size := by omega); (try have hl6_4_2 : w4.heap.size + 2 < w6.heap.size := by omega); (try have hl6_5_0 : w5.heap.size < w6.heap.size := by omega); (try have hm6_5_0 : w5.heap.size ≤ w6.heap.size := by omega); (try have hl6_5_1 : w5.heap.size + 1 < w6.heap.size := by omega); (try have hl6_5_2 : w5.heap.size + 2 < w6.heap.size := by omega))
        have hgL : Gr (((w.alloc (.cells #[.int .i64 an, .int .i64 ad] 23)).alloc (.cells #[.int .i64 bn, .int .i64 bd] 23)).alloc (.cells #[.int .i64 0, .int .i64 0] 23)) w6 := (by repeat (first | with_reducible exact Gr.refl _ | with_reducible assumption | refine Gr.setCell ?_ (by first | omega | (simp; done) | (simp; omega)) _ | refine Gr.alloc ?_ _ | refine Gr.drew ?_ | refine Gr.drewN ?_ _ | refine Gr.trans ?_ (by with_reducible assumption)))
        obtain ⟨hcL, hfL⟩ := hgL.cells
        have tL0 := hcL (w.heap.size + 2) 0 (by simp)
        have mL0 := hfL (w.heap.size + 2) 0 (by simp)
        have tL1 := hcL (w.heap.size + 2) 1 (by simp)
        have mL1 := hfL (w.heap.size + 2) 1 (by simp)
        simp [go_sem] at tL0 mL0 tL1 mL1
        simp [bodyPost, results, Try.results26, go_sem, tL0, mL0, tL1, mL1]
        exact (by repeat (first | refine Gr.setCell ?_ (by first | omega | (simp; done) | (simp; omega)) _ | refine Gr.alloc ?_ _ | refine Gr.drew ?_ | refine Gr.drewN ?_ _ | with_reducible assumption | with_reducible exact Gr.refl _ | refine Gr.trans ?_ (by with_reducible assumption)))
      · have dx : decide (an < 0) = true := by simp; omega
        have dn : decide (bn < 0) = false := by simp; omega
        obtain rfl : neg = true := by rw [hneg, dx, dn]; rfl
        clear hneg
        go_wp2_with (go_at_call 40; with_reducible refine (HM.out _).mono ?_; rintro e w6 ⟨rfl, hg6⟩; obtain ⟨hc6, hf6⟩ := hg6.cells; have hz6 := hg6.size; (try simp at hz6); (try have hl6_0_0 : w.heap.size < w6.heap.size := by omega); (try have hm6_0_0 : w.heap.size ≤ w6.heap.size := by omega); (try have hl6_0_1 : w.heap.size + 1 < w6.heap.size := by omega); (try have hl6_0_2 : w.heap.size + 2 < w6.heap.size := by omega); (try have hl6_1_0 : w1.heap.size < w6.heap.size := by omega); (try have hm6_1_0 : w1.heap.size ≤ w6.heap.size := by omega); (try have hl6_1_1 : w1.heap.size + 1 < w6.heap.size := by omega); (try have hl6_1_2 : w1.heap.size + 2 < w6.heap.size := by omega); (try have hl6_2_0 : w2.heap.size < w6.heap.size := by omega); (try have hm6_2_0 : w2.heap.size ≤ w6.heap.size := by omega); (try have hl6_2_1 : w2.heap.size + 1 < w6.heap.size := by omega); (try have hl6_2_2 : w2.heap.size + 2 < w6.heap.size := by omega); (try have hl6_3_0 : w3.heap.size < w6.heap.size := by omega); (try have hm6_3_0 : w3.heap.size ≤ w6.heap.size := by omega); (try have hl6_3_1 : w3.heap.size + 1 < w6.heap.size := by omega); (try have hl6_3_2 : w3.heap.size + 2 < w6.heap.size := by omega); (try have hl6_4_0 : w4.heap.size < w6.heap.size := by omega); (try have hm6_4_0 : w4.heap.size ≤ w6.heap.size := by omega); (try have hl6_4_1 : w4.heap.size + 1 < w6.heap.size := by omega); (try have hl6_4_2 : w4.heap.size + 2 < w6.heap.size := by omega); (try have hl6_5_0 : w5.heap.size < w6.heap.size := by omega); (try have hm6_5_0 : w5.heap.size ≤ w6.heap.size := by omega); (try have hl6_5_1 : w5.heap.size + 1 < w6.heap.size := by omega); (try have hl6_5_2 : w5.heap.size + 2 < w6.heap.size := by omega))
        have hgL : Gr (((w.alloc (.cells #[.int .i64 an, .int .i64 ad] 23)).alloc (.cells #[.int .i64 bn, .int .i64 bd] 23)).alloc (.cells #[.int .i64 0, .int .i64 0] 23)) w6 := (by repeat (first | with_reducible exact Gr.refl _ | with_reducible assumption | refine Gr.setCell ?_ (by first | omega | (simp; done) | (simp; omega)) _ | refine Gr.alloc ?_ _ | refine Gr.drew ?_ | refine Gr.drewN ?_ _ | refine Gr.trans ?_ (by with_reducible assumption)))
        obtain ⟨hcL, hfL⟩ := hgL.cells
        have tL0 := hcL (w.heap.size + 2) 0 (by simp)
        have mL0 := hfL (w.heap.size + 2) 0 (by simp)
        have tL1 := hcL (w.heap.size + 2) 1 (by simp)
        have mL1 := hfL (w.heap.size + 2) 1 (by simp)
        simp [go_sem] at tL0 mL0 tL1 mL1
        simp [bodyPost, results, Try.results26, go_sem, tL0, mL0, tL1, mL1]
        exact (by repeat (first | refine Gr.setCell ?_ (by first | omega | (simp; done) | (simp; omega)) _ | refine Gr.alloc ?_ _ | refine Gr.drew ?_ | refine Gr.drewN ?_ _ | with_reducible assumption | with_reducible exact Gr.refl _ | refine Gr.trans ?_ (by with_reducible assumption)))
      · have dx : decide (an < 0) = false := by simp; omega
        have dn : decide (bn < 0) = true := by simp; omega
        obtain rfl : neg = true := by rw [hneg, dx, dn]; rfl
        clear hneg
        go_wp2_with (go_at_call 40; with_reducible refine (HM.out _).mono ?_; rintro e w6 ⟨rfl, hg6⟩; obtain ⟨hc6, hf6⟩ := hg6.cells; have hz6 := hg6.size; (try simp at hz6); (try have hl6_0_0 : w.heap.size < w6.heap.size := by omega); (try have hm6_0_0 : w.heap.size ≤ w6.heap.size := by omega); (try have hl6_0_1 : w.heap.size + 1 < w6.heap.size := by omega); (try have hl6_0_2 : w.heap.size + 2 < w6.heap.size := by omega); (try have hl6_1_0 : w1.heap.size < w6.heap.size := by omega); (try have hm6_1_0 : w1.heap.size ≤ w6.heap.size := by omega); (try have hl6_1_1 : w1.heap.size + 1 < w6.heap.size := by omega); (try have hl6_1_2 : w1.heap.size + 2 < w6.heap.size := by omega); (try have hl6_2_0 : w2.heap.size < w6.heap.size := by omega); (try have hm6_2_0 : w2.heap.size ≤ w6.heap.size := by omega); (try have hl6_2_1 : w2.heap.size + 1 < w6.heap.size := by omega); (try have hl6_2_2 : w2.heap.size + 2 < w6.heap.size := by omega); (try have hl6_3_0 : w3.heap.size < w6.heap.size := by omega); (try have hm6_3_0 : w3.heap.size ≤ w6.heap.size := by omega); (try have hl6_3_1 : w3.heap.size + 1 < w6.heap.size := by omega); (try have hl6_3_2 : w3.heap.size + 2 < w6.heap.size := by omega); (try have hl6_4_0 : w4.heap.size < w6.heap.size := by omega); (try have hm6_4_0 : w4.heap.size ≤ w6.heap.size := by omega); (try have hl6_4_1 : w4.heap.size + 1 < w6.heap.size := by omega); (try have hl6_4_2 : w4.heap.size + 2 < w6.heap.size := by omega); (try have hl6_5_0 : w5.heap.size < w6.heap.size := by omega); (try have hm6_5_0 : w5.heap.size ≤ w6.heap.size := by omega); (try have hl6_5_1 : w5.heap.size + 1 < w6.heap.size := by omega); (try have hl6_5_2 : w5.heap.size + 2 < w6.heap.size := by omega))
        have hgL : Gr (((w.alloc (.cells #[.int .i64 an, .int .i64 ad] 23)).alloc (.cells #[.int .i64 bn, .int .i64 bd] 23)).alloc (.cells #[.int .i64 0, .int .i64 0] 23)) w6 := (by repeat (first | with_reducible exact Gr.refl _ | with_reducible assumption | refine Gr.setCell ?_ (by first | omega | (simp; done) | (simp; omega)) _ | refine Gr.alloc ?_ _ | refine Gr.drew ?_ | refine Gr.drewN ?_ _ | refine Gr.trans ?_ (by with_reducible assumption)))
        obtain ⟨hcL, hfL⟩ := hgL.cells
        have tL0 := hcL (w.heap.size + 2) 0 (by simp)
        have mL0 := hfL (w.heap.size + 2) 0 (by simp)
        have tL1 := hcL (w.heap.size + 2) 1 (by simp)
        have mL1 := hfL (w.heap.size + 2) 1 (by simp)
        simp [go_sem] at tL0 mL0 tL1 mL1
        simp [bodyPost, results, Try.results26, go_sem, tL0, mL0, tL1, mL1]
        exact (by repeat (first | refine Gr.setCell ?_ (by first | omega | (simp; done) | (simp; omega)) _ | refine Gr.alloc ?_ _ | refine Gr.drew ?_ | refine Gr.drewN ?_ _ | with_reducible assumption | with_reducible exact Gr.refl _ | refine Gr.trans ?_ (by with_reducible assumption)))
      · have dx : decide (an < 0) = false := by simp; omega
        have dn : decide (bn < 0) = false := by simp; omega
        obtain rfl : neg = false := by rw [hneg, dx, dn]; rfl
        clear hneg
        go_wp2_with (go_at_call 40; with_reducible refine (HM.out _).mono ?_; rintro e w6 ⟨rfl, hg6⟩; obtain ⟨hc6, hf6⟩ := hg6.cells; have hz6 := hg6.size; (try simp at hz6); (try have hl6_0_0 : w.heap.size < w6.heap.size := by omega); (try have hm6_0_0 : w.heap.size ≤ w6.heap.size := by omega); (try have hl6_0_1 : w.heap.size + 1 < w6.heap.size := by omega); (try have hl6_0_2 : w.heap.size + 2 < w6.heap.size := by omega); (try have hl6_1_0 : w1.heap.size < w6.heap.size := by omega); (try have hm6_1_0 : w1.heap.size ≤ w6.heap.size := by omega); (try have hl6_1_1 : w1.heap.size + 1 < w6.heap.size := by omega); (try have hl6_1_2 : w1.heap.size + 2 < w6.heap.size := by omega); (try have hl6_2_0 : w2.heap.size < w6.heap.size := by omega); (try have hm6_2_0 : w2.heap.size ≤ w6.heap.size := by omega); (try have hl6_2_1 : w2.heap.size + 1 < w6.heap.size := by omega); (try have hl6_2_2 : w2.heap.size + 2 < w6.heap.size := by omega); (try have hl6_3_0 : w3.heap.size < w6.heap.size := by omega); (try have hm6_3_0 : w3.heap.size ≤ w6.heap.size := by omega); (try have hl6_3_1 : w3.heap.size + 1 < w6.heap.size := by omega); (try have hl6_3_2 : w3.heap.size + 2 < w6.heap.size := by omega); (try have hl6_4_0 : w4.heap.size < w6.heap.size := by omega); (try have hm6_4_0 : w4.heap.size ≤ w6.heap.size := by omega); (try have hl6_4_1 : w4.heap.size + 1 < w6.heap.size := by omega); (try have hl6_4_2 : w4.heap.size + 2 < w6.heap.size := by omega); (try have hl6_5_0 : w5.heap.size < w6.heap.size := by omega); (try have hm6_5_0 : w5.heap.size ≤ w6.heap.size := by omega); (try have hl6_5_1 : w5.heap.size + 1 < w6.heap.size := by omega); (try have hl6_5_2 : w5.heap.size + 2 < w6.heap.size := by omega))
        have hgL : Gr (((w.alloc (.cells #[.int .i64 an, .int .i64 ad] 23)).alloc (.cells #[.int .i64 bn, .int .i64 bd] 23)).alloc (.cells #[.int .i64 0, .int .i64 0] 23)) w6 := (by repeat (first | with_reducible exact Gr.refl _ | with_reducible assumption | refine Gr.setCell ?_ (by first | omega | (simp; done) | (simp; omega)) _ | refine Gr.alloc ?_ _ | refine Gr.drew ?_ | refine Gr.drewN ?_ _ | refine Gr.trans ?_ (by with_reducible assumption)))
        obtain ⟨hcL, hfL⟩ := hgL.cells
        have tL0 := hcL (w.heap.size + 2) 0 (by simp)
        have mL0 := hfL (w.heap.size + 2) 0 (by simp)
        have tL1 := hcL (w.heap.size + 2) 1 (by simp)
        have mL1 := hfL (w.heap.size + 2) 1 (by simp)
        simp [go_sem] at tL0 mL0 tL1 mL1
        simp [bodyPost, results, Try.results26, go_sem, tL0, mL0, tL1, mL1]
        exact (by repeat (first | refine Gr.setCell ?_ (by first | omega | (simp; done) | (simp; omega)) _ | refine Gr.alloc ?_ _ | refine Gr.drew ?_ | refine Gr.drewN ?_ _ | with_reducible assumption | with_reducible exact Gr.refl _ | refine Gr.trans ?_ (by with_reducible assumption)))
end Go.Proofs.Ytclfiaemjdflbaa
