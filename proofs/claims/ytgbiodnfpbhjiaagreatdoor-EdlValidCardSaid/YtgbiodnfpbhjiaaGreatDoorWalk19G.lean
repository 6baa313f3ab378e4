
/-
  Contract of Number of package timecode.
  Conditions: the arguments are integers of their kinds.
-/
import Derived.Test.YtgbiodnfpbhjiaaGreatDoorWalk19F
namespace Go.Proofs.YtgbiodnfpbhjiaaGreatDoor.C19
open Go.RowKit
set_option linter.unusedSimpArgs false
set_option linter.unusedVariables false

theorem numN_eq (h m s f b : Int) (d : Bool) : ((h * 60 + m) * 60 + s) * b + f - drp b d * (h * 60 + m - (h * 60 + m) / 10) = numN h m s f b d := by
  unfold numN
  rw [Int.mul_comm h 60, Int.add_mul, Int.mul_assoc, Int.mul_comm 60 b, ← Int.mul_assoc, Int.mul_comm _ b, ← Int.mul_assoc 60]
  have : b * (60 * h + m) * 60 = 60 * b * (60 * h + m) := by rw [Int.mul_comm _ 60, Int.mul_assoc]
  rw [this]
  omega
theorem label_parts {h m s f b : Int} (hb : 24 ≤ b) (hm : 0 ≤ m ∧ m < 60) (hf : 0 ≤ f ∧ f < b) :
    (60 * h + m) / 60 = h ∧ (60 * h + m) % 60 = m ∧ (s * b + f) / b = s ∧ (s * b + f) % b = f := by
  refine ⟨by omega, by omega, ?_, ?_⟩
  · rw [Int.add_comm, Int.add_mul_ediv_right _ _ (by omega), Int.ediv_eq_zero_of_lt hf.1 hf.2, Int.zero_add]
  · rw [Int.add_comm, Int.add_mul_emod_self_right, Int.emod_eq_of_lt hf.1 hf.2]

set_option maxHeartbeats 400000 in
theorem number_in (h m s f b : Int) (d : Bool) (w : World) (ho : okB b d = true) (hi : inN h m s f b = true) :
    Calls Tryz.prog 176 #[.agg #[.int .i64 h, .int .i64 m, .int .i64 s, .int .i64 f, .int .i64 b, .bool d]] w fun e w' => e = .returned (.tuple #[.int .i64 (nmV h m s f b d), .int .i64 (nmE h m s f b d)]) ∧ Gr w w' := by
  obtain ⟨p1, p2, p3, p4⟩ := inN_out hi
  have hb := okB_bounds ho
  have HDY := Lib.hid (fun w => day_yes b d w ho)
  have HDR := Lib.hid (fun w => dropped_any b d w (by omega) (by omega))
  have HP := Lib.hid (fun w => position_any h m s f b d w p1 p2 p3 p4 ⟨hb.1, hb.2.1⟩)
  have sb := sb_bounds ⟨hb.1, hb.2.1⟩ p3.1 p3.2 p4.1 p4.2
  have k1 : 0 ≤ drp b d * (h * 60 + m - (h * 60 + m) / 10) := Int.mul_nonneg hb.2.2.1 (by omega)
  have k2 : drp b d * (h * 60 + m - (h * 60 + m) / 10) ≤ 5760 := by
    have : drp b d * (h * 60 + m - (h * 60 + m) / 10) ≤ 4 * 1440 := Int.mul_le_mul hb.2.2.2 (by omega) (by omega) (by omega)
    omega
  have t0 : 0 ≤ (h * 60 + m) * 60 + s ∧ (h * 60 + m) * 60 + s ≤ 86400 := by omega
  have t4 : 0 ≤ ((h * 60 + m) * 60 + s) * b := Int.mul_nonneg t0.1 (by omega)
  have t5 : ((h * 60 + m) * 60 + s) * b ≤ 5184000 := by
    have : ((h * 60 + m) * 60 + s) * b ≤ 86400 * 60 := Int.mul_le_mul t0.2 hb.2.1 (by omega) (by omega)
    omega
  have HL := Lib.hid (fun w => label_any (((h * 60 + m) * 60 + s) * b + f - drp b d * (h * 60 + m - (h * 60 + m) / 10)) b d w (by unfold I64; omega) ho)
  have HV : Hid (nmV h m s f b d = if okB b d && (inN h m s f b && !miss h m s f b d) then numN h m s f b d else 0) := rfl
  have HE : Hid (nmE h m s f b d = if okB b d then (if inN h m s f b && !miss h m s f b d then 0 else 2) else 1) := rfl
  have HQ := Lib.hid (numN_eq h m s f b d)
  have HH : Hid (∀ w, Calls Tryz.prog 211 #[.int .i64 h, .int .i64 24] w fun e w' => e = .returned (.bool true) ∧ w = w') := (fun w => (within_any h 24 w).mono fun e w' hh => by rw [show wi h 24 = true from decide_eq_true p1] at hh; exact hh : ∀ w, Calls Tryz.prog 211 #[.int .i64 h, .int .i64 24] w fun e w' => e = .returned (.bool true) ∧ w = w')
  have HM : Hid (∀ w, Calls Tryz.prog 211 #[.int .i64 m, .int .i64 60] w fun e w' => e = .returned (.bool true) ∧ w = w') := (fun w => (within_any m 60 w).mono fun e w' hh => by rw [show wi m 60 = true from decide_eq_true p2] at hh; exact hh : ∀ w, Calls Tryz.prog 211 #[.int .i64 m, .int .i64 60] w fun e w' => e = .returned (.bool true) ∧ w = w')
  have HS : Hid (∀ w, Calls Tryz.prog 211 #[.int .i64 s, .int .i64 60] w fun e w' => e = .returned (.bool true) ∧ w = w') := (fun w => (within_any s 60 w).mono fun e w' hh => by rw [show wi s 60 = true from decide_eq_true p3] at hh; exact hh : ∀ w, Calls Tryz.prog 211 #[.int .i64 s, .int .i64 60] w fun e w' => e = .returned (.bool true) ∧ w = w')
  have HF : Hid (∀ w, Calls Tryz.prog 211 #[.int .i64 f, .int .i64 b] w fun e w' => e = .returned (.bool true) ∧ w = w') := (fun w => (within_any f b w).mono fun e w' hh => by rw [show wi f b = true from decide_eq_true p4] at hh; exact hh : ∀ w, Calls Tryz.prog 211 #[.int .i64 f, .int .i64 b] w fun e w' => e = .returned (.bool true) ∧ w = w')
  rw [ho, hi] at HV HE
  by_cases hm : miss h m s f b d = true
  · rw [hm] at HV HE
    have ll := num_label_miss ho hi hm
    have lp := label_parts (h := h) (m := m - 1) (s := s) (f := f) hb.1 (by omega) p4
    rw [HQ.out, ll.1, lp.1, lp.2.1] at HL
    rw [← HQ.out] at HL
    generalize lf (((h * 60 + m) * 60 + s) * b + f - drp b d * (h * 60 + m - (h * 60 + m) / 10)) b d = F at *
    have d1 : (m - 1 == m) = false := by simpa using (show ¬ m - 1 = m by omega)
    generalize nmV h m s f b d = V at *
    generalize nmE h m s f b d = E at *
    have hV : V = 0 := HV.out
    have hE : E = 2 := HE.out
    subst hV hE
    clear HV HE HQ ll lp hm hi ho
    generalize dayN b d = D at *
    generalize drp b d = k at *
    go_enter Tryz.func176, Tryz.ntmps176
    go_wp2_with (first
      | (go_at_call 35; refine (HDY.out _).mono ?_; rintro e w' ⟨rfl, rfl⟩)
      | (go_at_call 211; with_reducible refine (HH.out _).mono ?_; rintro e w' ⟨rfl, rfl⟩)
      | (go_at_call 211; with_reducible refine (HM.out _).mono ?_; rintro e w' ⟨rfl, rfl⟩)
      | (go_at_call 211; with_reducible refine (HS.out _).mono ?_; rintro e w' ⟨rfl, rfl⟩)
      | (go_at_call 211; with_reducible refine (HF.out _).mono ?_; rintro e w' ⟨rfl, rfl⟩))
    refine wp_region_gr (by kernel_rfl) (by kernel_rfl) (fun hq1 hq2 => ?_)
    repeat (first | go_big_quiet_skip | (go_big_quiet_want; go_big_quiet_op; first | go_big_quiet_on | (apply Exists.intro; refine ⟨fun _ => ?_, ?_⟩; (· (first | (go_at_call 212; exact gr_call (HP.out _)) | (go_at_call 79; exact gr_call_same (HDR.out _)))); go_big_quiet_on)))
    refine wpQuiet_nil ?_
    clear hq1 hq2
    rintro w1 ⟨⟨_, hg1⟩, rfl⟩
    obtain ⟨hc1, hf1⟩ := hg1.cells
    have hz1 := hg1.size
    (try simp at hz1); (try have hl1_0_0 : w.heap.size < w1.heap.size := by omega); (try have hm1_0_0 : w.heap.size ≤ w1.heap.size := by omega); (try have hl1_0_1 : w.heap.size + 1 < w1.heap.size := by omega); (try have hl1_0_2 : w.heap.size + 2 < w1.heap.size := by omega)
    go_wp2_with (go_at_call 133; refine (HL.out _).mono ?_; rintro e w2 ⟨rfl, hg2⟩; obtain ⟨hc2, hf2⟩ := hg2.cells; have hz2 := hg2.size; (try simp at hz2); (try have hl2_0_0 : w.heap.size < w2.heap.size := by omega); (try have hm2_0_0 : w.heap.size ≤ w2.heap.size := by omega); (try have hl2_0_1 : w.heap.size + 1 < w2.heap.size := by omega); (try have hl2_0_2 : w.heap.size + 2 < w2.heap.size := by omega); (try have hl2_1_0 : w1.heap.size < w2.heap.size := by omega); (try have hm2_1_0 : w1.heap.size ≤ w2.heap.size := by omega); (try have hl2_1_1 : w1.heap.size + 1 < w2.heap.size := by omega); (try have hl2_1_2 : w1.heap.size + 2 < w2.heap.size := by omega))
    simp [bodyPost, results, Tryz.results176, go_sem, hc2, hf2]
    exact (by repeat (first | refine Gr.setCell ?_ (by first | omega | (simp; done) | (simp; omega)) _ | refine Gr.alloc ?_ _ | refine Gr.drew ?_ | refine Gr.drewN ?_ _ | with_reducible assumption | with_reducible exact Gr.refl _ | refine Gr.trans ?_ (by with_reducible assumption)))
  · have hm : miss h m s f b d = false := by simpa using hm
    rw [hm] at HV HE
    have ll := num_label ho hi hm
    have lp := label_parts (h := h) (m := m) (s := s) (f := f) hb.1 p2 p4
    rw [HQ.out, ll.1, ll.2, lp.1, lp.2.1, lp.2.2.1, lp.2.2.2] at HL
    rw [← HQ.out] at HL
    have hV : nmV h m s f b d = ((h * 60 + m) * 60 + s) * b + f - drp b d * (h * 60 + m - (h * 60 + m) / 10) := HV.out.trans HQ.out.symm
    have hE : nmE h m s f b d = 0 := HE.out
    rw [hV, hE]
    clear HV HE HQ ll lp hm hi ho hV hE
    generalize dayN b d = D at *
    generalize drp b d = k at *
    go_enter Tryz.func176, Tryz.ntmps176
    go_wp2_with (first
      | (go_at_call 35; refine (HDY.out _).mono ?_; rintro e w' ⟨rfl, rfl⟩)
      | (go_at_call 211; with_reducible refine (HH.out _).mono ?_; rintro e w' ⟨rfl, rfl⟩)
      | (go_at_call 211; with_reducible refine (HM.out _).mono ?_; rintro e w' ⟨rfl, rfl⟩)
      | (go_at_call 211; with_reducible refine (HS.out _).mono ?_; rintro e w' ⟨rfl, rfl⟩)
      | (go_at_call 211; with_reducible refine (HF.out _).mono ?_; rintro e w' ⟨rfl, rfl⟩))
    refine wp_region_gr (by kernel_rfl) (by kernel_rfl) (fun hq1 hq2 => ?_)
    repeat (first | go_big_quiet_skip | (go_big_quiet_want; go_big_quiet_op; first | go_big_quiet_on | (apply Exists.intro; refine ⟨fun _ => ?_, ?_⟩; (· (first | (go_at_call 212; exact gr_call (HP.out _)) | (go_at_call 79; exact gr_call_same (HDR.out _)))); go_big_quiet_on)))
    refine wpQuiet_nil ?_
    clear hq1 hq2
    rintro w1 ⟨⟨_, hg1⟩, rfl⟩
    obtain ⟨hc1, hf1⟩ := hg1.cells
    have hz1 := hg1.size
    (try simp at hz1); (try have hl1_0_0 : w.heap.size < w1.heap.size := by omega); (try have hm1_0_0 : w.heap.size ≤ w1.heap.size := by omega); (try have hl1_0_1 : w.heap.size + 1 < w1.heap.size := by omega); (try have hl1_0_2 : w.heap.size + 2 < w1.heap.size := by omega)
    go_wp2_with (go_at_call 133; refine (HL.out _).mono ?_; rintro e w2 ⟨rfl, hg2⟩; obtain ⟨hc2, hf2⟩ := hg2.cells; have hz2 := hg2.size; (try simp at hz2); (try have hl2_0_0 : w.heap.size < w2.heap.size := by omega); (try have hm2_0_0 : w.heap.size ≤ w2.heap.size := by omega); (try have hl2_0_1 : w.heap.size + 1 < w2.heap.size := by omega); (try have hl2_0_2 : w.heap.size + 2 < w2.heap.size := by omega); (try have hl2_1_0 : w1.heap.size < w2.heap.size := by omega); (try have hm2_1_0 : w1.heap.size ≤ w2.heap.size := by omega); (try have hl2_1_1 : w1.heap.size + 1 < w2.heap.size := by omega); (try have hl2_1_2 : w1.heap.size + 2 < w2.heap.size := by omega))
    simp [bodyPost, results, Tryz.results176, go_sem, hc2, hf2]
    exact (by repeat (first | refine Gr.setCell ?_ (by first | omega | (simp; done) | (simp; omega)) _ | refine Gr.alloc ?_ _ | refine Gr.drew ?_ | refine Gr.drewN ?_ _ | with_reducible assumption | with_reducible exact Gr.refl _ | refine Gr.trans ?_ (by with_reducible assumption)))
end Go.Proofs.YtgbiodnfpbhjiaaGreatDoor.C19
