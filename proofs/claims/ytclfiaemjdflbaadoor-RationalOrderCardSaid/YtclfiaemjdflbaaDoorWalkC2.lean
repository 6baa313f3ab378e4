/-
  Contract of Cmp of the reference.
  Conditions: the arguments are integers of their kinds.
-/
import Derived.Test.YtclfiaemjdflbaaDoorWalkF
import Derived.Test.YtclfiaemjdflbaaDoorWalkG
import Derived.Test.YtclfiaemjdflbaaDoorReg3
import Derived.Test.YtclfiaemjdflbaaDoorMathI
namespace Go.Proofs.YtclfiaemjdflbaaDoor
open Go.RowKit
set_option linter.unusedSimpArgs false
set_option linter.unusedVariables false

/-- how a/b and c/d compare -/
def cmV (an ad bn bd : Int) : Int := if an * bd < bn * ad then -1 else if an * bd = bn * ad then 0 else 1

set_option maxHeartbeats 1000000 in
theorem rcmp_bad (an ad bn bd : Int) (b1 b2 : Bool) (w : World) (hb : b1 = false ∨ (b1 = true ∧ b2 = false))
    (HA : ∀ w, Calls Tryd.prog 14 #[.agg #[.int .i64 an, .int .i64 ad]] w fun e w' => e = .returned (.bool b1) ∧ Gr w w')
    (HB : ∀ w, Calls Tryd.prog 14 #[.agg #[.int .i64 bn, .int .i64 bd]] w fun e w' => e = .returned (.bool b2) ∧ Gr w w') :
    Calls Tryd.prog 9 #[.agg #[.int .i64 an, .int .i64 ad], .agg #[.int .i64 bn, .int .i64 bd]] w fun e w' => e = .returned (.int .i64 0) ∧ Gr w w' := by
  have HA := Lib.hid HA
  have HB := Lib.hid HB
  rcases hb with rfl | ⟨rfl, rfl⟩
  all_goals
    go_enter Tryd.func9, Tryd.ntmps9
    go_wp2_with (first
      | (go_at_call 14; with_reducible refine (HA.out _).mono ?_; rintro e w1 ⟨rfl, hg1⟩; obtain ⟨hc1, hf1⟩ := hg1.cells; have hz1 := hg1.size; (try simp at hz1); (try have hl1_0_0 : w.heap.size < w1.heap.size := by omega); (try have hm1_0_0 : w.heap.size ≤ w1.heap.size := by omega); (try have hl1_0_1 : w.heap.size + 1 < w1.heap.size := by omega); (try have hl1_0_2 : w.heap.size + 2 < w1.heap.size := by omega))
      | (go_at_call 14; with_reducible refine (HB.out _).mono ?_; rintro e w2 ⟨rfl, hg2⟩; obtain ⟨hc2, hf2⟩ := hg2.cells; have hz2 := hg2.size; (try simp at hz2); (try have hl2_0_0 : w.heap.size < w2.heap.size := by omega); (try have hm2_0_0 : w.heap.size ≤ w2.heap.size := by omega); (try have hl2_0_1 : w.heap.size + 1 < w2.heap.size := by omega); (try have hl2_0_2 : w.heap.size + 2 < w2.heap.size := by omega); (try have hl2_1_0 : w1.heap.size < w2.heap.size := by omega); (try have hm2_1_0 : w1.heap.size ≤ w2.heap.size := by omega); (try have hl2_1_1 : w1.heap.size + 1 < w2.heap.size := by omega); (try have hl2_1_2 : w1.heap.size + 2 < w2.heap.size := by omega)))
    go_ret
    exact ⟨rfl, (by repeat (first | with_reducible exact Gr.refl _ | with_reducible assumption | refine Gr.setCell ?_ (by first | omega | (simp; done) | (simp; omega)) _ | refine Gr.alloc ?_ _ | refine Gr.drew ?_ | refine Gr.drewN ?_ _ | refine Gr.trans ?_ (by with_reducible assumption)))⟩
set_option maxHeartbeats 1000000 in
theorem rcmp_same (an ad : Int) (w : World)
    (HA : ∀ w, Calls Tryd.prog 14 #[.agg #[.int .i64 an, .int .i64 ad]] w fun e w' => e = .returned (.bool true) ∧ Gr w w') :
    Calls Tryd.prog 9 #[.agg #[.int .i64 an, .int .i64 ad], .agg #[.int .i64 an, .int .i64 ad]] w fun e w' => e = .returned (.int .i64 0) ∧ Gr w w' := by
  have HA := Lib.hid HA
  go_enter Tryd.func9, Tryd.ntmps9
  go_wp2_with (first
    | (go_at_call 14; with_reducible refine (HA.out w).mono ?_; rintro e w1 ⟨rfl, hg1⟩; obtain ⟨hc1, hf1⟩ := hg1.cells; have hz1 := hg1.size; (try simp at hz1); (try have hl1_0_0 : w.heap.size < w1.heap.size := by omega); (try have hm1_0_0 : w.heap.size ≤ w1.heap.size := by omega); (try have hl1_0_1 : w.heap.size + 1 < w1.heap.size := by omega); (try have hl1_0_2 : w.heap.size + 2 < w1.heap.size := by omega))
    | (go_at_call 14; with_reducible refine (HA.out _).mono ?_; rintro e w2 ⟨rfl, hg2⟩; obtain ⟨hc2, hf2⟩ := hg2.cells; have hz2 := hg2.size; (try simp at hz2); (try have hl2_0_0 : w.heap.size < w2.heap.size := by omega); (try have hm2_0_0 : w.heap.size ≤ w2.heap.size := by omega); (try have hl2_0_1 : w.heap.size + 1 < w2.heap.size := by omega); (try have hl2_0_2 : w.heap.size + 2 < w2.heap.size := by omega); (try have hl2_1_0 : w1.heap.size < w2.heap.size := by omega); (try have hm2_1_0 : w1.heap.size ≤ w2.heap.size := by omega); (try have hl2_1_1 : w1.heap.size + 1 < w2.heap.size := by omega); (try have hl2_1_2 : w1.heap.size + 2 < w2.heap.size := by omega)))
  go_ret
  exact ⟨rfl, (by repeat (first | with_reducible exact Gr.refl _ | with_reducible assumption | refine Gr.setCell ?_ (by first | omega | (simp; done) | (simp; omega)) _ | refine Gr.alloc ?_ _ | refine Gr.drew ?_ | refine Gr.drewN ?_ _ | refine Gr.trans ?_ (by with_reducible assumption)))⟩
set_option maxHeartbeats 2000000 in
theorem rcmp_signs (an ad bn bd R : Int) (w : World) (hs : (an < 0 ∧ 0 ≤ bn ∧ R = -1) ∨ (0 ≤ an ∧ bn < 0 ∧ R = 1))
    (HA : ∀ w, Calls Tryd.prog 14 #[.agg #[.int .i64 an, .int .i64 ad]] w fun e w' => e = .returned (.bool true) ∧ Gr w w')
    (HB : ∀ w, Calls Tryd.prog 14 #[.agg #[.int .i64 bn, .int .i64 bd]] w fun e w' => e = .returned (.bool true) ∧ Gr w w') :
    Calls Tryd.prog 9 #[.agg #[.int .i64 an, .int .i64 ad], .agg #[.int .i64 bn, .int .i64 bd]] w fun e w' => e = .returned (.int .i64 R) ∧ Gr w w' := by
  have HA := Lib.hid HA
  have HB := Lib.hid HB
  rcases hs with ⟨sa, sb, rfl⟩ | ⟨sa, sb, rfl⟩
  · have dx : decide (an < 0) = true := by simp; omega
    have dn : decide (bn < 0) = false := by simp; omega
    have ne : (an == bn) = false := by simp; omega
    go_enter Tryd.func9, Tryd.ntmps9
    go_wp2_with (first
      | (go_at_call 14; with_reducible refine (HA.out _).mono ?_; rintro e w1 ⟨rfl, hg1⟩; obtain ⟨hc1, hf1⟩ := hg1.cells; have hz1 := hg1.size; (try simp at hz1); (try have hl1_0_0 : w.heap.size < w1.heap.size := by omega); (try have hm1_0_0 : w.heap.size ≤ w1.heap.size := by omega); (try have hl1_0_1 : w.heap.size + 1 < w1.heap.size := by omega); (try have hl1_0_2 : w.heap.size + 2 < w1.heap.size := by omega))
      | (go_at_call 14; with_reducible refine (HB.out _).mono ?_; rintro e w2 ⟨rfl, hg2⟩; obtain ⟨hc2, hf2⟩ := hg2.cells; have hz2 := hg2.size; (try simp at hz2); (try have hl2_0_0 : w.heap.size < w2.heap.size := by omega); (try have hm2_0_0 : w.heap.size ≤ w2.heap.size := by omega); (try have hl2_0_1 : w.heap.size + 1 < w2.heap.size := by omega); (try have hl2_0_2 : w.heap.size + 2 < w2.heap.size := by omega); (try have hl2_1_0 : w1.heap.size < w2.heap.size := by omega); (try have hm2_1_0 : w1.heap.size ≤ w2.heap.size := by omega); (try have hl2_1_1 : w1.heap.size + 1 < w2.heap.size := by omega); (try have hl2_1_2 : w1.heap.size + 2 < w2.heap.size := by omega)))
    go_ret
    exact ⟨rfl, (by repeat (first | with_reducible exact Gr.refl _ | with_reducible assumption | refine Gr.setCell ?_ (by first | omega | (simp; done) | (simp; omega)) _ | refine Gr.alloc ?_ _ | refine Gr.drew ?_ | refine Gr.drewN ?_ _ | refine Gr.trans ?_ (by with_reducible assumption)))⟩
  · have dx : decide (an < 0) = false := by simp; omega
    have dn : decide (bn < 0) = true := by simp; omega
    have ne : (an == bn) = false := by simp; omega
    go_enter Tryd.func9, Tryd.ntmps9
    go_wp2_with (first
      | (go_at_call 14; with_reducible refine (HA.out _).mono ?_; rintro e w1 ⟨rfl, hg1⟩; obtain ⟨hc1, hf1⟩ := hg1.cells; have hz1 := hg1.size; (try simp at hz1); (try have hl1_0_0 : w.heap.size < w1.heap.size := by omega); (try have hm1_0_0 : w.heap.size ≤ w1.heap.size := by omega); (try have hl1_0_1 : w.heap.size + 1 < w1.heap.size := by omega); (try have hl1_0_2 : w.heap.size + 2 < w1.heap.size := by omega))
      | (go_at_call 14; with_reducible refine (HB.out _).mono ?_; rintro e w2 ⟨rfl, hg2⟩; obtain ⟨hc2, hf2⟩ := hg2.cells; have hz2 := hg2.size; (try simp at hz2); (try have hl2_0_0 : w.heap.size < w2.heap.size := by omega); (try have hm2_0_0 : w.heap.size ≤ w2.heap.size := by omega); (try have hl2_0_1 : w.heap.size + 1 < w2.heap.size := by omega); (try have hl2_0_2 : w.heap.size + 2 < w2.heap.size := by omega); (try have hl2_1_0 : w1.heap.size < w2.heap.size := by omega); (try have hm2_1_0 : w1.heap.size ≤ w2.heap.size := by omega); (try have hl2_1_1 : w1.heap.size + 1 < w2.heap.size := by omega); (try have hl2_1_2 : w1.heap.size + 2 < w2.heap.size := by omega)))
    go_ret
    exact ⟨rfl, (by repeat (first | with_reducible exact Gr.refl _ | with_reducible assumption | refine Gr.setCell ?_ (by first | omega | (simp; done) | (simp; omega)) _ | refine Gr.alloc ?_ _ | refine Gr.drew ?_ | refine Gr.drewN ?_ _ | refine Gr.trans ?_ (by with_reducible assumption)))⟩
set_option maxRecDepth 100000 in
set_option maxHeartbeats 4000000 in
theorem rcmp_mags (an ad bn bd xh xl yh yl R : Int) (L : Bool) (w : World) (hs : (an < 0 ∧ bn < 0) ∨ (0 ≤ an ∧ 0 ≤ bn)) (hne : (an == bn) = false ∨ (an == bn) = true ∧ (ad == bd) = false) (h0 : I64 an) (h0' : I64 bn)
    (a1 : 1 ≤ ad) (a2 : ad ≤ 9223372036854775807) (b1 : 1 ≤ bd) (b2 : bd ≤ 9223372036854775807) (hR : R = if (L == decide (0 ≤ an)) = true then -1 else 1)
    (HA : ∀ w, Calls Tryd.prog 14 #[.agg #[.int .i64 an, .int .i64 ad]] w fun e w' => e = .returned (.bool true) ∧ Gr w w')
    (HB : ∀ w, Calls Tryd.prog 14 #[.agg #[.int .i64 bn, .int .i64 bd]] w fun e w' => e = .returned (.bool true) ∧ Gr w w')
    (HTX : (∀ w, Calls Tryd.prog 22 #[.int .u64 (mg an), .int .u64 bd] w fun e w' => e = .returned (.agg #[.int .u64 xh, .int .u64 xl]) ∧ Gr w w'))
    (HTY : (∀ w, Calls Tryd.prog 22 #[.int .u64 (mg bn), .int .u64 ad] w fun e w' => e = .returned (.agg #[.int .u64 yh, .int .u64 yl]) ∧ Gr w w'))
    (HL : (∀ w, Calls Tryd.prog 24 #[.agg #[.int .u64 xh, .int .u64 xl], .agg #[.int .u64 yh, .int .u64 yl]] w fun e w' => e = .returned (.bool L) ∧ Gr w w')) :
    Calls Tryd.prog 9 #[.agg #[.int .i64 an, .int .i64 ad], .agg #[.int .i64 bn, .int .i64 bd]] w fun e w' => e = .returned (.int .i64 R) ∧ Gr w w' := by
  have HA := Lib.hid HA
  have HB := Lib.hid HB
  have HTX := Lib.hid HTX
  have HTY := Lib.hid HTY
  have HL := Lib.hid HL
  have HX := Lib.hid (fun w => mag_any an w h0.1 h0.2)
  have HY := Lib.hid (fun w => mag_any bn w h0'.1 h0'.2)
  clear h0 h0'
  have HE := Lib.hid hne
  clear hne
  rcases hs with ⟨sa, sb⟩ | ⟨sa, sb⟩
  · have dx : decide (an < 0) = true := by simp; omega
    have dn : decide (bn < 0) = true := by simp; omega
    have dg : decide (0 ≤ an) = false := by simp; omega
    rw [dg] at hR
    cases L
    all_goals
      simp at hR
      subst hR
      rcases HE.out with e1 | ⟨e1, e2⟩
      all_goals
        go_enter Tryd.func9, Tryd.ntmps9
        go_wp2_with (first
          | (go_at_call 14; with_reducible refine (HA.out _).mono ?_; rintro e w1 ⟨rfl, hg1⟩; obtain ⟨hc1, hf1⟩ := hg1.cells; have hz1 := hg1.size; (try simp at hz1); (try have hl1_0_0 : w.heap.size < w1.heap.size := by omega); (try have hm1_0_0 : w.heap.size ≤ w1.heap.size := by omega); (try have hl1_0_1 : w.heap.size + 1 < w1.heap.size := by omega); (try have hl1_0_2 : w.heap.size + 2 < w1.heap.size := by omega))
          | (go_at_call 14; with_reducible refine (HB.out _).mono ?_; rintro e w2 ⟨rfl, hg2⟩; obtain ⟨hc2, hf2⟩ := hg2.cells; have hz2 := hg2.size; (try simp at hz2); (try have hl2_0_0 : w.heap.size < w2.heap.size := by omega); (try have hm2_0_0 : w.heap.size ≤ w2.heap.size := by omega); (try have hl2_0_1 : w.heap.size + 1 < w2.heap.size := by omega); (try have hl2_0_2 : w.heap.size + 2 < w2.heap.size := by omega); (try have hl2_1_0 : w1.heap.size < w2.heap.size := by omega); (try have hm2_1_0 : w1.heap.size ≤ w2.heap.size := by omega); (try have hl2_1_1 : w1.heap.size + 1 < w2.heap.size := by omega); (try have hl2_1_2 : w1.heap.size + 2 < w2.heap.size := by omega)))
        refine wp_region_made2 14 (.cells #[.int .u64 0, .int .u64 0] 48) (.cells #[.int .u64 0, .int .u64 0] 48) _ _ (by kernel_rfl) (by kernel_rfl) rfl rfl rfl rfl (by simp) (fun a w => by simp [execOp, go_sem]) (fun a w => by simp [execOp, go_sem]) (fun B hB hq1 hq2 => ?_)
        simp only [List.take_succ_cons, List.take_zero, List.drop_succ_cons, List.drop_zero]
        repeat (first | go_big_quiet_skip | (go_big_quiet_want; go_big_quiet_op; first | go_big_quiet_on | (apply Exists.intro; refine ⟨fun _ => ?_, ?_⟩; (· (first | (go_at_call 23; with_reducible exact gr_call_same (HX.out _)) | (go_at_call 23; with_reducible exact gr_call_same (HY.out _)) | (go_at_call 22; with_reducible exact gr_call (HTX.out _)) | (go_at_call 22; with_reducible exact gr_call (HTY.out _)))); go_big_quiet_on)))
        refine wpQuiet_nil ?_
        clear hq1 hq2 hB
        rintro G H w4 hg4 hs4_G hs4_H hne4 hb4_G hb4_H
        obtain ⟨hc4, hf4⟩ := hg4.cells
        have hz4 := hg4.size
        (try simp at hz4); (try have hl4_0_0 : w.heap.size < w4.heap.size := by omega); (try have hm4_0_0 : w.heap.size ≤ w4.heap.size := by omega); (try have hl4_0_1 : w.heap.size + 1 < w4.heap.size := by omega); (try have hl4_0_2 : w.heap.size + 2 < w4.heap.size := by omega); (try have hl4_1_0 : w1.heap.size < w4.heap.size := by omega); (try have hm4_1_0 : w1.heap.size ≤ w4.heap.size := by omega); (try have hl4_1_1 : w1.heap.size + 1 < w4.heap.size := by omega); (try have hl4_1_2 : w1.heap.size + 2 < w4.heap.size := by omega); (try have hl4_2_0 : w2.heap.size < w4.heap.size := by omega); (try have hm4_2_0 : w2.heap.size ≤ w4.heap.size := by omega); (try have hl4_2_1 : w2.heap.size + 1 < w4.heap.size := by omega); (try have hl4_2_2 : w2.heap.size + 2 < w4.heap.size := by omega); (try have hl4_3_0 : w3.heap.size < w4.heap.size := by omega); (try have hm4_3_0 : w3.heap.size ≤ w4.heap.size := by omega); (try have hl4_3_1 : w3.heap.size + 1 < w4.heap.size := by omega); (try have hl4_3_2 : w3.heap.size + 2 < w4.heap.size := by omega)
        (try simp at hs4_G)
        have hx4_G : G < w4.heap.size := lt_of_block hb4_G
        have hy4_G_0 := cells_of_block hb4_G 0
        have hv4_G_0 := mark_of_block hb4_G 0
        have hy4_G_1 := cells_of_block hb4_G 1
        have hv4_G_1 := mark_of_block hb4_G 1
        simp at hy4_G_0 hy4_G_1
        (try simp at hs4_H)
        have hx4_H : H < w4.heap.size := lt_of_block hb4_H
        have hy4_H_0 := cells_of_block hb4_H 0
        have hv4_H_0 := mark_of_block hb4_H 0
        have hy4_H_1 := cells_of_block hb4_H 1
        have hv4_H_1 := mark_of_block hb4_H 1
        simp at hy4_H_0 hy4_H_1
        go_wp2_with fail
        refine wp_region_gr (by kernel_rfl) (by kernel_rfl) (fun hq1 hq2 => ?_)
        repeat (first | go_big_quiet_skip | (go_big_quiet_want; go_big_quiet_op; first | go_big_quiet_on | (apply Exists.intro; refine ⟨fun _ => ?_, ?_⟩; (· ((go_at_call 24; with_reducible exact gr_call (HL.out _)))); go_big_quiet_on)))
        refine wpQuiet_nil ?_
        clear hq1 hq2
        rintro w5 ⟨⟨_, hg5⟩, rfl⟩
        obtain ⟨hc5, hf5⟩ := hg5.cells
        have hz5 := hg5.size
        (try simp at hz5); (try have hl5_0_0 : w.heap.size < w5.heap.size := by omega); (try have hm5_0_0 : w.heap.size ≤ w5.heap.size := by omega); (try have hl5_0_1 : w.heap.size + 1 < w5.heap.size := by omega); (try have hl5_0_2 : w.heap.size + 2 < w5.heap.size := by omega); (try have hl5_1_0 : w1.heap.size < w5.heap.size := by omega); (try have hm5_1_0 : w1.heap.size ≤ w5.heap.size := by omega); (try have hl5_1_1 : w1.heap.size + 1 < w5.heap.size := by omega); (try have hl5_1_2 : w1.heap.size + 2 < w5.heap.size := by omega); (try have hl5_2_0 : w2.heap.size < w5.heap.size := by omega); (try have hm5_2_0 : w2.heap.size ≤ w5.heap.size := by omega); (try have hl5_2_1 : w2.heap.size + 1 < w5.heap.size := by omega); (try have hl5_2_2 : w2.heap.size + 2 < w5.heap.size := by omega); (try have hl5_3_0 : w3.heap.size < w5.heap.size := by omega); (try have hm5_3_0 : w3.heap.size ≤ w5.heap.size := by omega); (try have hl5_3_1 : w3.heap.size + 1 < w5.heap.size := by omega); (try have hl5_3_2 : w3.heap.size + 2 < w5.heap.size := by omega); (try have hl5_4_0 : w4.heap.size < w5.heap.size := by omega); (try have hm5_4_0 : w4.heap.size ≤ w5.heap.size := by omega); (try have hl5_4_1 : w4.heap.size + 1 < w5.heap.size := by omega); (try have hl5_4_2 : w4.heap.size + 2 < w5.heap.size := by omega)
        go_wp2_with fail
        go_ret
        exact ⟨rfl, (by repeat (first | with_reducible exact Gr.refl _ | with_reducible assumption | refine Gr.setCell ?_ (by first | omega | (simp; done) | (simp; omega)) _ | refine Gr.alloc ?_ _ | refine Gr.drew ?_ | refine Gr.drewN ?_ _ | refine Gr.trans ?_ (by with_reducible assumption)))⟩
  · have dx : decide (an < 0) = false := by simp; omega
    have dn : decide (bn < 0) = false := by simp; omega
    have dg : decide (0 ≤ an) = true := by simp; omega
    rw [dg] at hR
    cases L
    all_goals
      simp at hR
      subst hR
      rcases HE.out with e1 | ⟨e1, e2⟩
      all_goals
        go_enter Tryd.func9, Tryd.ntmps9
        go_wp2_with (first
          | (go_at_call 14; with_reducible refine (HA.out _).mono ?_; rintro e w1 ⟨rfl, hg1⟩; obtain ⟨hc1, hf1⟩ := hg1.cells; have hz1 := hg1.size; (try simp at hz1); (try have hl1_0_0 : w.heap.size < w1.heap.size := by omega); (try have hm1_0_0 : w.heap.size ≤ w1.heap.size := by omega); (try have hl1_0_1 : w.heap.size + 1 < w1.heap.size := by omega); (try have hl1_0_2 : w.heap.size + 2 < w1.heap.size := by omega))
          | (go_at_call 14; with_reducible refine (HB.out _).mono ?_; rintro e w2 ⟨rfl, hg2⟩; obtain ⟨hc2, hf2⟩ := hg2.cells; have hz2 := hg2.size; (try simp at hz2); (try have hl2_0_0 : w.heap.size < w2.heap.size := by omega); (try have hm2_0_0 : w.heap.size ≤ w2.heap.size := by omega); (try have hl2_0_1 : w.heap.size + 1 < w2.heap.size := by omega); (try have hl2_0_2 : w.heap.size + 2 < w2.heap.size := by omega); (try have hl2_1_0 : w1.heap.size < w2.heap.size := by omega); (try have hm2_1_0 : w1.heap.size ≤ w2.heap.size := by omega); (try have hl2_1_1 : w1.heap.size + 1 < w2.heap.size := by omega); (try have hl2_1_2 : w1.heap.size + 2 < w2.heap.size := by omega)))
        refine wp_region_made2 14 (.cells #[.int .u64 0, .int .u64 0] 48) (.cells #[.int .u64 0, .int .u64 0] 48) _ _ (by kernel_rfl) (by kernel_rfl) rfl rfl rfl rfl (by simp) (fun a w => by simp [execOp, go_sem]) (fun a w => by simp [execOp, go_sem]) (fun B hB hq1 hq2 => ?_)
        simp only [List.take_succ_cons, List.take_zero, List.drop_succ_cons, List.drop_zero]
        repeat (first | go_big_quiet_skip | (go_big_quiet_want; go_big_quiet_op; first | go_big_quiet_on | (apply Exists.intro; refine ⟨fun _ => ?_, ?_⟩; (· (first | (go_at_call 23; with_reducible exact gr_call_same (HX.out _)) | (go_at_call 23; with_reducible exact gr_call_same (HY.out _)) | (go_at_call 22; with_reducible exact gr_call (HTX.out _)) | (go_at_call 22; with_reducible exact gr_call (HTY.out _)))); go_big_quiet_on)))
        refine wpQuiet_nil ?_
        clear hq1 hq2 hB
        rintro G H w4 hg4 hs4_G hs4_H hne4 hb4_G hb4_H
        obtain ⟨hc4, hf4⟩ := hg4.cells
        have hz4 := hg4.size
        (try simp at hz4); (try have hl4_0_0 : w.heap.size < w4.heap.size := by omega); (try have hm4_0_0 : w.heap.size ≤ w4.heap.size := by omega); (try have hl4_0_1 : w.heap.size + 1 < w4.heap.size := by omega); (try have hl4_0_2 : w.heap.size + 2 < w4.heap.size := by omega); (try have hl4_1_0 : w1.heap.size < w4.heap.size := by omega); (try have hm4_1_0 : w1.heap.size ≤ w4.heap.size := by omega); (try have hl4_1_1 : w1.heap.size + 1 < w4.heap.size := by omega); (try have hl4_1_2 : w1.heap.size + 2 < w4.heap.size := by omega); (try have hl4_2_0 : w2.heap.size < w4.heap.size := by omega); (try have hm4_2_0 : w2.heap.size ≤ w4.heap.size := by omega); (try have hl4_2_1 : w2.heap.size + 1 < w4.heap.size := by omega); (try have hl4_2_2 : w2.heap.size + 2 < w4.heap.size := by omega); (try have hl4_3_0 : w3.heap.size < w4.heap.size := by omega); (try have hm4_3_0 : w3.heap.size ≤ w4.heap.size := by omega); (try have hl4_3_1 : w3.heap.size + 1 < w4.heap.size := by omega); (try have hl4_3_2 : w3.heap.size + 2 < w4.heap.size := by omega)
        (try simp at hs4_G)
        have hx4_G : G < w4.heap.size := lt_of_block hb4_G
        have hy4_G_0 := cells_of_block hb4_G 0
        have hv4_G_0 := mark_of_block hb4_G 0
        have hy4_G_1 := cells_of_block hb4_G 1
        have hv4_G_1 := mark_of_block hb4_G 1
        simp at hy4_G_0 hy4_G_1
        (try simp at hs4_H)
        have hx4_H : H < w4.heap.size := lt_of_block hb4_H
        have hy4_H_0 := cells_of_block hb4_H 0
        have hv4_H_0 := mark_of_block hb4_H 0
        have hy4_H_1 := cells_of_block hb4_H 1
        have hv4_H_1 := mark_of_block hb4_H 1
        simp at hy4_H_0 hy4_H_1
        go_wp2_with fail
        refine wp_region_gr (by kernel_rfl) (by kernel_rfl) (fun hq1 hq2 => ?_)
        repeat (first | go_big_quiet_skip | (go_big_quiet_want; go_big_quiet_op; first | go_big_quiet_on | (apply Exists.intro; refine ⟨fun _ => ?_, ?_⟩; (· ((go_at_call 24; with_reducible exact gr_call (HL.out _)))); go_big_quiet_on)))
        refine wpQuiet_nil ?_
        clear hq1 hq2
        rintro w5 ⟨⟨_, hg5⟩, rfl⟩
        obtain ⟨hc5, hf5⟩ := hg5.cells
        have hz5 := hg5.size
        (try simp at hz5); (try have hl5_0_0 : w.heap.size < w5.heap.size := by omega); (try have hm5_0_0 : w.heap.size ≤ w5.heap.size := by omega); (try have hl5_0_1 : w.heap.size + 1 < w5.heap.size := by omega); (try have hl5_0_2 : w.heap.size + 2 < w5.heap.size := by omega); (try have hl5_1_0 : w1.heap.size < w5.heap.size := by omega); (try have hm5_1_0 : w1.heap.size ≤ w5.heap.size := by omega); (try have hl5_1_1 : w1.heap.size + 1 < w5.heap.size := by omega); (try have hl5_1_2 : w1.heap.size + 2 < w5.heap.size := by omega); (try have hl5_2_0 : w2.heap.size < w5.heap.size := by omega); (try have hm5_2_0 : w2.heap.size ≤ w5.heap.size := by omega); (try have hl5_2_1 : w2.heap.size + 1 < w5.heap.size := by omega); (try have hl5_2_2 : w2.heap.size + 2 < w5.heap.size := by omega); (try have hl5_3_0 : w3.heap.size < w5.heap.size := by omega); (try have hm5_3_0 : w3.heap.size ≤ w5.heap.size := by omega); (try have hl5_3_1 : w3.heap.size + 1 < w5.heap.size := by omega); (try have hl5_3_2 : w3.heap.size + 2 < w5.heap.size := by omega); (try have hl5_4_0 : w4.heap.size < w5.heap.size := by omega); (try have hm5_4_0 : w4.heap.size ≤ w5.heap.size := by omega); (try have hl5_4_1 : w4.heap.size + 1 < w5.heap.size := by omega); (try have hl5_4_2 : w4.heap.size + 2 < w5.heap.size := by omega)
        go_wp2_with fail
        go_ret
        exact ⟨rfl, (by repeat (first | with_reducible exact Gr.refl _ | with_reducible assumption | refine Gr.setCell ?_ (by first | omega | (simp; done) | (simp; omega)) _ | refine Gr.alloc ?_ _ | refine Gr.drew ?_ | refine Gr.drewN ?_ _ | refine Gr.trans ?_ (by with_reducible assumption)))⟩

theorem rcmp_any (an ad bn bd : Int) (w : World) (hA : I64 an) (hB : I64 ad) (hC : I64 bn) (hD : I64 bd) :
    Calls Tryd.prog 9 #[.agg #[.int .i64 an, .int .i64 ad], .agg #[.int .i64 bn, .int .i64 bd]] w fun e w' => e = .returned (.int .i64 (if vB an ad && vB bn bd then cmV an ad bn bd else 0)) ∧ Gr w w' := by
  have HA := fun w => rvalid_any an ad w hA hB
  have HB := fun w => rvalid_any bn bd w hC hD
  cases va : vB an ad
  · rw [va] at HA
    rw [Bool.false_and]
    exact rcmp_bad an ad bn bd false (vB bn bd) w (.inl rfl) HA HB
  · cases vb : vB bn bd
    · rw [va] at HA
      rw [vb] at HB
      rw [Bool.and_false]
      exact rcmp_bad an ad bn bd true false w (.inr ⟨rfl, rfl⟩) HA HB
    · rw [va] at HA
      rw [vb] at HB
      rw [show (true && true) = true from rfl, if_pos rfl]
      obtain ⟨a1, a2, a3⟩ := vB_inv va
      obtain ⟨b1, b2, b3⟩ := vB_inv vb
      have hB2 := hB.2
      have hD2 := hD.2
      by_cases hs : (an < 0 ∧ 0 ≤ bn) ∨ (0 ≤ an ∧ bn < 0)
      · refine rcmp_signs an ad bn bd _ w ?_ HA HB
        unfold cmV
        rcases hs with ⟨sa, sb⟩ | ⟨sa, sb⟩
        · have x := Int.mul_neg_of_neg_of_pos sa (show 0 < bd by omega)
          have y := Int.mul_nonneg sb (show 0 ≤ ad by omega)
          exact .inl ⟨sa, sb, if_pos (by omega)⟩
        · have x := Int.mul_nonneg sa (show 0 ≤ bd by omega)
          have y := Int.mul_neg_of_neg_of_pos sb (show 0 < ad by omega)
          exact .inr ⟨sa, sb, by rw [if_neg (by omega), if_neg (by omega)]⟩
      · by_cases he : an = bn ∧ ad = bd
        · obtain ⟨rfl, rfl⟩ := he
          have : cmV an ad an ad = 0 := by unfold cmV; rw [if_neg (by omega), if_pos rfl]
          rw [this]
          exact rcmp_same an ad w HA
        · have hx : an * bd ≠ bn * ad := fun e => he (coprime_cross a3 b3 (by omega) (by omega) e)
          have e0 : ∀ k : Int, -k * bd = -(k * bd) := fun k => Int.neg_mul k bd
          have e1 : ∀ k : Int, -k * ad = -(k * ad) := fun k => Int.neg_mul k ad
          refine rcmp_mags an ad bn bd (wH (mg an * bd)) (wL (mg an * bd)) (wH (mg bn * ad)) (wL (mg bn * ad)) _ (vless (mg an * bd) (mg bn * ad)) w (by omega) ?_ hA hC a1 hB.2 b1 hD.2 ?_ HA HB
            (fun w => times_v (mg an) bd w (mg_nonneg an) (mg_lt an hA.1 hA.2) (by omega) (by omega)) (fun w => times_v (mg bn) ad w (mg_nonneg bn) (mg_lt bn hC.1 hC.2) (by omega) (by omega)) (fun w => less_any _ _ w (Int.mul_nonneg (mg_nonneg an) (by omega)) (Int.mul_nonneg (mg_nonneg bn) (by omega)))
          · by_cases hq : an = bn
            · exact .inr ⟨by simpa using hq, by simp; omega⟩
            · exact .inl (by simpa using hq)
          · unfold cmV vless
            rcases (show (an < 0 ∧ bn < 0) ∨ (0 ≤ an ∧ 0 ≤ bn) by omega) with ⟨sa, sb⟩ | ⟨sa, sb⟩
            · rw [mg_neg sa, mg_neg sb, e0, e1]
              rw [decide_eq_false (show ¬ 0 ≤ an by omega)]
              by_cases hl : an * bd < bn * ad
              · rw [if_pos hl, decide_eq_false (show ¬ -(an * bd) < -(bn * ad) by omega)]; rfl
              · rw [if_neg hl, if_neg hx, decide_eq_true (show -(an * bd) < -(bn * ad) by omega)]; rfl
            · rw [mg_pos sa, mg_pos sb, decide_eq_true sa]
              by_cases hl : an * bd < bn * ad
              · rw [if_pos hl, decide_eq_true hl]; rfl
              · rw [if_neg hl, if_neg hx, decide_eq_false hl]; rfl
end Go.Proofs.YtclfiaemjdflbaaDoor
