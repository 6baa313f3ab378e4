
/-
  Contract of Number of the reference, inside the day.
  Conditions: the arguments are integers of their kinds.
-/
import Derived.Test.YtgbiodnfpbhjiaaGreatDoorWalk19H
namespace Go.Proofs.YtgbiodnfpbhjiaaGreatDoor.C19
open Go.RowKit
set_option linter.unusedSimpArgs false
set_option linter.unusedVariables false

set_option maxRecDepth 100000 in
set_option maxHeartbeats 1000000 in
theorem rnumber_in (h m s f b : Int) (d : Bool) (w : World) (ho : okB b d = true) (hi : inN h m s f b = true) :
    Calls Tryz.prog 136 #[.agg #[.int .i64 h, .int .i64 m, .int .i64 s, .int .i64 f, .int .i64 b, .bool d]] w fun e w' => e = .returned (.tuple #[.int .i64 (nmV h m s f b d), .int .i64 (nmE h m s f b d)]) ∧ Gr w w' := by
  obtain ⟨p1, p2, p3, p4⟩ := inN_out hi
  have hb := okB_bounds ho
  have HDY := Lib.hid (fun w => rday_yes b d w ho)
  have HQ := numN_st ho hi
  have e0 : 60 * h + m = h * 60 + m := by omega
  have HC := Lib.hid (fun w => rdropped_any (h * 60 + m) b d w (by omega) (by omega) (by omega) (by omega))
  have HV : Hid (nmV h m s f b d = if okB b d && (inN h m s f b && !miss h m s f b d) then numN h m s f b d else 0) := rfl
  have HE : Hid (nmE h m s f b d = if okB b d then (if inN h m s f b && !miss h m s f b d then 0 else 2) else 1) := rfl
  have sb := sb_bounds ⟨hb.1, hb.2.1⟩ p3.1 p3.2 p4.1 p4.2
  have s0 : 0 ≤ s * b := Int.mul_nonneg p3.1 (by omega)
  have hD := (dayN_pos ho)
  rw [ho, hi] at HV HE
  have c1 : decide (h < 0) = false := decide_eq_false (by omega)
  have c2 : decide (23 < h) = false := decide_eq_false (by omega)
  have c3 : decide (m < 0) = false := decide_eq_false (by omega)
  have c4 : decide (59 < m) = false := decide_eq_false (by omega)
  have c5 : decide (s < 0) = false := decide_eq_false (by omega)
  have c6 : decide (59 < s) = false := decide_eq_false (by omega)
  have c7 : decide (f < 0) = false := decide_eq_false (by omega)
  have c8 : decide (b ≤ f) = false := decide_eq_false (by omega)
  have db := dm_bounds (m := h * 60 + m) ho
  by_cases hm : miss h m s f b d = true
  · have hm' : s = 0 ∧ f < dm (60 * h + m) b d := by unfold miss at hm; simpa using hm
    rw [hm] at HV HE
    rw [e0] at hm' HQ
    obtain ⟨rfl, h2⟩ := hm'
    have c9 : decide (f < dm (h * 60 + m) b d) = true := decide_eq_true h2
    have hV : nmV h m 0 f b d = 0 := HV.out
    have hE : nmE h m 0 f b d = 2 := HE.out
    rw [hV, hE]
    clear HV HE HQ hm hi ho hV hE h2 c5 c6
    generalize dayN b d = D at *
    generalize dm (h * 60 + m) b d = k at *
    go_enter Tryz.func136, Tryz.ntmps136
    go_wp2_with (go_at_call 38; refine (HDY.out _).mono ?_; rintro e w' ⟨rfl, rfl⟩)
    refine wp_region_gr (by kernel_rfl) (by kernel_rfl) (fun hq1 hq2 => ?_)
    repeat (first | go_big_quiet_skip | (go_big_quiet_want; go_big_quiet_op; first | go_big_quiet_on | (apply Exists.intro; refine ⟨fun _ => ?_, ?_⟩; (· ((go_at_call 83; exact gr_call_same (HC.out _)))); go_big_quiet_on)))
    refine wpQuiet_nil ?_
    clear hq1 hq2
    rintro w1 ⟨⟨_, hg1⟩, rfl⟩
    obtain ⟨hc1, hf1⟩ := hg1.cells
    have hz1 := hg1.size
    (try simp at hz1); (try have hl1_0_0 : w.heap.size < w1.heap.size := by omega); (try have hm1_0_0 : w.heap.size ≤ w1.heap.size := by omega); (try have hl1_0_1 : w.heap.size + 1 < w1.heap.size := by omega); (try have hl1_0_2 : w.heap.size + 2 < w1.heap.size := by omega)
    go_wp2
    simp [bodyPost, results, Tryz.results136, go_sem, hc1, hf1]
    exact (by repeat (first | refine Gr.setCell ?_ (by first | omega | (simp; done) | (simp; omega)) _ | refine Gr.alloc ?_ _ | refine Gr.drew ?_ | refine Gr.drewN ?_ _ | with_reducible assumption | with_reducible exact Gr.refl _ | refine Gr.trans ?_ (by with_reducible assumption)))
  · have hm : miss h m s f b d = false := by simpa using hm
    rw [hm] at HV HE
    rw [e0] at HQ
    have hm' : ¬ (s = 0 ∧ f < dm (h * 60 + m) b d) := by rw [← e0]; unfold miss at hm; simpa using hm
    have hV : nmV h m s f b d = stN b d (h * 60 + m).toNat + (s * b + f) - dm (h * 60 + m) b d := HV.out.trans HQ
    have hE : nmE h m s f b d = 0 := HE.out
    rw [hV, hE]
    have HO := Lib.hid ho
    clear HV HE HQ hm hi ho hV hE
    have sd := stN_bounds HO.out (show (h * 60 + m).toNat ≤ 1440 by omega)
    have HR : Hid (∀ j : Nat, (j : Int) = h * 60 + m → stN b d j = stN b d (h * 60 + m).toNat) := (fun j hj => by rw [← hj]; rfl : ∀ j : Nat, (j : Int) = h * 60 + m → stN b d j = stN b d (h * 60 + m).toNat)
    generalize stN b d (h * 60 + m).toNat = V at *
    generalize hδ : dm (h * 60 + m) b d = k at *
    have e1 : 0 ≤ h * 60 + m ∧ h * 60 + m < 1440 := by omega
    rcases (show (s = 0 ∧ ¬ f < k) ∨ ¬ s = 0 by omega) with ⟨rfl, h2⟩ | h2
    all_goals
      first
      | (have c9 : decide (f < k) = false := decide_eq_false h2)
      | (have c9 : (s == 0) = false := by simpa using h2)
      (try clear c5 c6)
      clear hm' h2
      go_enter Tryz.func136, Tryz.ntmps136
      go_wp2_with (go_at_call 38; refine (HDY.out _).mono ?_; rintro e w' ⟨rfl, rfl⟩)
      refine wp_region_gr (by kernel_rfl) (by kernel_rfl) (fun hq1 hq2 => ?_)
      repeat (first | go_big_quiet_skip | (go_big_quiet_want; go_big_quiet_op; first | go_big_quiet_on | (apply Exists.intro; refine ⟨fun _ => ?_, ?_⟩; (· ((go_at_call 83; exact gr_call_same (HC.out _)))); go_big_quiet_on)))
      refine wpQuiet_nil ?_
      clear hq1 hq2
      rintro w1 ⟨⟨_, hg1⟩, rfl⟩
      obtain ⟨hc1, hf1⟩ := hg1.cells
      have hz1 := hg1.size
      (try simp at hz1); (try have hl1_0_0 : w.heap.size < w1.heap.size := by omega); (try have hm1_0_0 : w.heap.size ≤ w1.heap.size := by omega); (try have hl1_0_1 : w.heap.size + 1 < w1.heap.size := by omega); (try have hl1_0_2 : w.heap.size + 2 < w1.heap.size := by omega)
      go_wp2
      go_loopw [7, 8] (fun n i wr => ∃ j : Nat, (j : Int) ≤ h * 60 + m ∧ i = .int .i64 j ∧ n = .int .i64 (stN b d j) ∧ Gr (w.alloc (.cells #[.int .i64 h, .int .i64 m, .int .i64 _, .int .i64 f, .int .i64 b, .bool d] 153)) wr) (fun _ i _ => (h * 60 + m).toNat - (intOf i).toNat)
      case atStart => exact ⟨0, by omega, rfl, rfl, hg1⟩
      case round =>
        obtain ⟨j, hj, rfl, rfl, hg⟩ := hrel
        obtain ⟨hc, hf⟩ := hg.cells
        have hz := hg.size
        simp at hz
        have hl : w.heap.size < wr.heap.size := by omega
        have sj := stN_bounds HO.out (show j ≤ 1440 by omega)
        by_cases hlt : (j : Int) < h * 60 + m
        · have HC := Lib.hid (fun w => rdropped_any (j : Int) b d w (by omega) (by omega) (by omega) (by omega))
          have HS : Hid (stN b d j + 60 * b - dm (j : Int) b d = stN b d (j + 1)) := rfl
          have dj := dm_bounds (m := (j : Int)) HO.out
          generalize stN b d j = S at *
          generalize dm (j : Int) b d = δ at *
          have d1 : decide ((j : Int) < h * 60 + m) = true := decide_eq_true hlt
          go_wp2
          refine wp_region_gr (by kernel_rfl) (by kernel_rfl) (fun hq1 hq2 => ?_)
          repeat (first | go_big_quiet_skip | (go_big_quiet_want; go_big_quiet_op; first | go_big_quiet_on | (apply Exists.intro; refine ⟨fun _ => ?_, ?_⟩; (· ((go_at_call 83; exact gr_call_same (HC.out _)))); go_big_quiet_on)))
          refine wpQuiet_nil ?_
          clear hq1 hq2
          rintro w4 ⟨⟨_, hg4⟩, rfl⟩
          obtain ⟨hc4, hf4⟩ := hg4.cells
          have hz4 := hg4.size
          (try simp at hz4); (try have hl4_0_0 : w.heap.size < w4.heap.size := by omega); (try have hm4_0_0 : w.heap.size ≤ w4.heap.size := by omega); (try have hl4_0_1 : w.heap.size + 1 < w4.heap.size := by omega); (try have hl4_0_2 : w.heap.size + 2 < w4.heap.size := by omega); (try have hl4_1_0 : w1.heap.size < w4.heap.size := by omega); (try have hm4_1_0 : w1.heap.size ≤ w4.heap.size := by omega); (try have hl4_1_1 : w1.heap.size + 1 < w4.heap.size := by omega); (try have hl4_1_2 : w1.heap.size + 2 < w4.heap.size := by omega); (try have hl4_2_0 : w2.heap.size < w4.heap.size := by omega); (try have hm4_2_0 : w2.heap.size ≤ w4.heap.size := by omega); (try have hl4_2_1 : w2.heap.size + 1 < w4.heap.size := by omega); (try have hl4_2_2 : w2.heap.size + 2 < w4.heap.size := by omega); (try have hl4_3_0 : w3.heap.size < w4.heap.size := by omega); (try have hm4_3_0 : w3.heap.size ≤ w4.heap.size := by omega); (try have hl4_3_1 : w3.heap.size + 1 < w4.heap.size := by omega); (try have hl4_3_2 : w3.heap.size + 2 < w4.heap.size := by omega)
          go_wp2
          go_round
          case rel => exact ⟨j + 1, by omega, by go_num, by rw [HS.out], (by repeat (first | refine Gr.setCell ?_ (by first | omega | (simp; done) | (simp; omega)) _ | refine Gr.alloc ?_ _ | refine Gr.drew ?_ | refine Gr.drewN ?_ _ | with_reducible assumption | with_reducible exact Gr.refl _ | refine Gr.trans ?_ (by with_reducible assumption)))⟩
          case measure => simp [intOf]; omega
        · have hje : (j : Int) = h * 60 + m := by omega
          have hv := HR.out j hje
          rw [hv] at sj ⊢
          have d1 : decide ((j : Int) < h * 60 + m) = false := decide_eq_false hlt
          go_wp2
          refine wp_region_gr (by kernel_rfl) (by kernel_rfl) (fun hq1 hq2 => ?_)
          repeat (first | go_big_quiet_skip | (go_big_quiet_want; go_big_quiet_op; first | go_big_quiet_on | (apply Exists.intro; refine ⟨fun _ => ?_, ?_⟩; (· ((go_at_call 83; exact gr_call_same (HC.out _)))); go_big_quiet_on)))
          refine wpQuiet_nil ?_
          clear hq1 hq2
          rintro w4 ⟨⟨_, hg4⟩, rfl⟩
          obtain ⟨hc4, hf4⟩ := hg4.cells
          have hz4 := hg4.size
          (try simp at hz4); (try have hl4_0_0 : w.heap.size < w4.heap.size := by omega); (try have hm4_0_0 : w.heap.size ≤ w4.heap.size := by omega); (try have hl4_0_1 : w.heap.size + 1 < w4.heap.size := by omega); (try have hl4_0_2 : w.heap.size + 2 < w4.heap.size := by omega); (try have hl4_1_0 : w1.heap.size < w4.heap.size := by omega); (try have hm4_1_0 : w1.heap.size ≤ w4.heap.size := by omega); (try have hl4_1_1 : w1.heap.size + 1 < w4.heap.size := by omega); (try have hl4_1_2 : w1.heap.size + 2 < w4.heap.size := by omega); (try have hl4_2_0 : w2.heap.size < w4.heap.size := by omega); (try have hm4_2_0 : w2.heap.size ≤ w4.heap.size := by omega); (try have hl4_2_1 : w2.heap.size + 1 < w4.heap.size := by omega); (try have hl4_2_2 : w2.heap.size + 2 < w4.heap.size := by omega); (try have hl4_3_0 : w3.heap.size < w4.heap.size := by omega); (try have hm4_3_0 : w3.heap.size ≤ w4.heap.size := by omega); (try have hl4_3_1 : w3.heap.size + 1 < w4.heap.size := by omega); (try have hl4_3_2 : w3.heap.size + 2 < w4.heap.size := by omega)
          go_wp2
          simp [bodyPost, results, Tryz.results136, go_sem, hc4, hf4]
          exact (by repeat (first | refine Gr.setCell ?_ (by first | omega | (simp; done) | (simp; omega)) _ | refine Gr.alloc ?_ _ | refine Gr.drew ?_ | refine Gr.drewN ?_ _ | with_reducible assumption | with_reducible exact Gr.refl _ | refine Gr.trans ?_ (by with_reducible assumption)))
end Go.Proofs.YtgbiodnfpbhjiaaGreatDoor.C19
