/-
  Contract of Parse of the reference, out of its parts.
  Conditions: the string has at most 2^47 bytes.
-/
import Derived.Test.YtclfiaemjdflbaaDoorWalkNu
namespace Go.Proofs.YtclfiaemjdflbaaDoor
open Go.RowKit Go.Lib
set_option linter.unusedSimpArgs false
set_option linter.unusedVariables false

set_option maxRecDepth 20000 in
set_option maxHeartbeats 8000000 in
theorem rparse_core (s t : ByteArray) (k : Nat) (i n d k2 v1 RN RD RE : Int) (w : World) (hz : 0 < s.size) (hs : s.size ≤ 140737488355328) (hn1 : 0 ≤ n) (hn2 : n ≤ 9223372036854775807) (hk : k ≤ s.size)
    (hb : (((s[0].toNat : Int) == 45) = true ∧ i = 1 ∧ v1 = -n) ∨ (((s[0].toNat : Int) == 45) = false ∧ i = 0 ∧ v1 = n))
    (HN : ∀ w, Calls Tryd.prog 31 #[.string s, .int .i64 i] w fun e w' => e = .returned (.tuple #[.int .i64 n, .int .i64 k]) ∧ Gr w w')
    (hsl : (∃ h : k < s.size, ((s[k].toNat : Int) == 47) = true ∧ (∀ w, Calls Tryd.prog 31 #[.string s, .int .i64 (k + 1)] w fun e w' => e = .returned (.tuple #[.int .i64 d, .int .i64 k2]) ∧ Gr w w')) ∨ (k = s.size ∧ d = 1) ∨ (∃ h : k < s.size, ((s[k].toNat : Int) == 47) = false ∧ d = 1))
    (HF : ∀ w, Calls Tryd.prog 12 #[.agg #[.int .i64 v1, .int .i64 d]] w fun e w' => e = .returned (.string t) ∧ Gr w w')
    (hfin : ((t.toList == s.toList) = false ∧ RN = 0 ∧ RD = 0 ∧ RE = 3) ∨ (t = s ∧ RN = v1 ∧ RD = d ∧ RE = 0)) :
    Calls Tryd.prog 15 #[.string s] w fun e w' => e = .returned (.tuple #[.agg #[.int .i64 RN, .int .i64 RD], .int .i64 RE]) ∧ Gr w w' := by
  have HN := Lib.hid HN
  have HF := Lib.hid HF
  have hfin := Lib.hid hfin
  have hsl := Lib.hid hsl
  have hk2 : (k : Int) ≤ 140737488355328 := by omega
  have he : s.toList.isEmpty = false := by
    rw [ByteArray.toList_eq]
    cases hl : s.data.toList with
    | nil =>
      have : s.data.toList.length = 0 := by rw [hl]; rfl
      simp at this
      have h2 : s.size = 0 := by rw [← ByteArray.size_data, this]; rfl
      omega
    | cons _ _ => rfl
  have q0 : decide (0 < s.size) = true := decide_eq_true hz
  rcases hb with ⟨b0, rfl, rfl⟩ | ⟨b0, rfl, rfl⟩
  · rcases hsl.out with ⟨hk3, b1, H2⟩ | ⟨hk3, rfl⟩ | ⟨hk3, b1, rfl⟩
    · have H2 := Lib.hid H2
      have q1 : decide (k < s.size) = true := decide_eq_true hk3
      rcases hfin.out with ⟨e2, rfl, rfl, rfl⟩ | ⟨rfl, rfl, rfl, rfl⟩
      all_goals
        clear hfin hsl
        go_enter Tryd.func15, Tryd.ntmps15
        go_wp2_with (first
          | (go_at_call 31; with_reducible refine (HN.out _).mono ?_; rintro e w1 ⟨rfl, hg1⟩; obtain ⟨hc1, hf1⟩ := hg1.cells; have hz1 := hg1.size; (try simp at hz1); (try have hl1_0_0 : w.heap.size < w1.heap.size := by omega); (try have hm1_0_0 : w.heap.size ≤ w1.heap.size := by omega); (try have hl1_0_1 : w.heap.size + 1 < w1.heap.size := by omega); (try have hl1_0_2 : w.heap.size + 2 < w1.heap.size := by omega))
          | (go_at_call 31; with_reducible refine (H2.out _).mono ?_; rintro e w2 ⟨rfl, hg2⟩; obtain ⟨hc2, hf2⟩ := hg2.cells; have hz2 := hg2.size; (try simp at hz2); (try have hl2_0_0 : w.heap.size < w2.heap.size := by omega); (try have hm2_0_0 : w.heap.size ≤ w2.heap.size := by omega); (try have hl2_0_1 : w.heap.size + 1 < w2.heap.size := by omega); (try have hl2_0_2 : w.heap.size + 2 < w2.heap.size := by omega); (try have hl2_1_0 : w1.heap.size < w2.heap.size := by omega); (try have hm2_1_0 : w1.heap.size ≤ w2.heap.size := by omega); (try have hl2_1_1 : w1.heap.size + 1 < w2.heap.size := by omega); (try have hl2_1_2 : w1.heap.size + 2 < w2.heap.size := by omega))
          | (go_at_call 12; with_reducible refine (HF.out _).mono ?_; rintro e w3 ⟨rfl, hg3⟩; obtain ⟨hc3, hf3⟩ := hg3.cells; have hz3 := hg3.size; (try simp at hz3); (try have hl3_0_0 : w.heap.size < w3.heap.size := by omega); (try have hm3_0_0 : w.heap.size ≤ w3.heap.size := by omega); (try have hl3_0_1 : w.heap.size + 1 < w3.heap.size := by omega); (try have hl3_0_2 : w.heap.size + 2 < w3.heap.size := by omega); (try have hl3_1_0 : w1.heap.size < w3.heap.size := by omega); (try have hm3_1_0 : w1.heap.size ≤ w3.heap.size := by omega); (try have hl3_1_1 : w1.heap.size + 1 < w3.heap.size := by omega); (try have hl3_1_2 : w1.heap.size + 2 < w3.heap.size := by omega); (try have hl3_2_0 : w2.heap.size < w3.heap.size := by omega); (try have hm3_2_0 : w2.heap.size ≤ w3.heap.size := by omega); (try have hl3_2_1 : w2.heap.size + 1 < w3.heap.size := by omega); (try have hl3_2_2 : w2.heap.size + 2 < w3.heap.size := by omega)))
        have hgL : Gr (w.alloc (.cells #[.int .i64 0, .int .i64 0] 23)) w3 := (by repeat (first | with_reducible exact Gr.refl _ | with_reducible assumption | refine Gr.setCell ?_ (by first | omega | (simp; done) | (simp; omega)) _ | refine Gr.alloc ?_ _ | refine Gr.drew ?_ | refine Gr.drewN ?_ _ | refine Gr.trans ?_ (by with_reducible assumption)))
        obtain ⟨hcL, hfL⟩ := hgL.cells
        have tL0 := hcL (w.heap.size) 0 (by simp)
        have mL0 := hfL (w.heap.size) 0 (by simp)
        have tL1 := hcL (w.heap.size) 1 (by simp)
        have mL1 := hfL (w.heap.size) 1 (by simp)
        simp [go_sem] at tL0 mL0 tL1 mL1
        simp [bodyPost, results, Tryd.results15, go_sem, tL0, mL0, tL1, mL1]
        exact (by repeat (first | refine Gr.setCell ?_ (by first | omega | (simp; done) | (simp; omega)) _ | refine Gr.alloc ?_ _ | refine Gr.drew ?_ | refine Gr.drewN ?_ _ | with_reducible assumption | with_reducible exact Gr.refl _ | refine Gr.trans ?_ (by with_reducible assumption)))
    · have q1 : decide (k < s.size) = false := decide_eq_false (by omega)
      clear hk3
      rcases hfin.out with ⟨e2, rfl, rfl, rfl⟩ | ⟨rfl, rfl, rfl, rfl⟩
      all_goals
        clear hfin hsl
        go_enter Tryd.func15, Tryd.ntmps15
        go_wp2_with (first
          | (go_at_call 31; with_reducible refine (HN.out _).mono ?_; rintro e w1 ⟨rfl, hg1⟩; obtain ⟨hc1, hf1⟩ := hg1.cells; have hz1 := hg1.size; (try simp at hz1); (try have hl1_0_0 : w.heap.size < w1.heap.size := by omega); (try have hm1_0_0 : w.heap.size ≤ w1.heap.size := by omega); (try have hl1_0_1 : w.heap.size + 1 < w1.heap.size := by omega); (try have hl1_0_2 : w.heap.size + 2 < w1.heap.size := by omega))
          | (go_at_call 12; with_reducible refine (HF.out _).mono ?_; rintro e w3 ⟨rfl, hg3⟩; obtain ⟨hc3, hf3⟩ := hg3.cells; have hz3 := hg3.size; (try simp at hz3); (try have hl3_0_0 : w.heap.size < w3.heap.size := by omega); (try have hm3_0_0 : w.heap.size ≤ w3.heap.size := by omega); (try have hl3_0_1 : w.heap.size + 1 < w3.heap.size := by omega); (try have hl3_0_2 : w.heap.size + 2 < w3.heap.size := by omega); (try have hl3_1_0 : w1.heap.size < w3.heap.size := by omega); (try have hm3_1_0 : w1.heap.size ≤ w3.heap.size := by omega); (try have hl3_1_1 : w1.heap.size + 1 < w3.heap.size := by omega); (try have hl3_1_2 : w1.heap.size + 2 < w3.heap.size := by omega); (try have hl3_2_0 : w2.heap.size < w3.heap.size := by omega); (try have hm3_2_0 : w2.heap.size ≤ w3.heap.size := by omega); (try have hl3_2_1 : w2.heap.size + 1 < w3.heap.size := by omega); (try have hl3_2_2 : w2.heap.size + 2 < w3.heap.size := by omega)))
        have hgL : Gr (w.alloc (.cells #[.int .i64 0, .int .i64 0] 23)) w3 := (by repeat (first | with_reducible exact Gr.refl _ | with_reducible assumption | refine Gr.setCell ?_ (by first | omega | (simp; done) | (simp; omega)) _ | refine Gr.alloc ?_ _ | refine Gr.drew ?_ | refine Gr.drewN ?_ _ | refine Gr.trans ?_ (by with_reducible assumption)))
        obtain ⟨hcL, hfL⟩ := hgL.cells
        have tL0 := hcL (w.heap.size) 0 (by simp)
        have mL0 := hfL (w.heap.size) 0 (by simp)
        have tL1 := hcL (w.heap.size) 1 (by simp)
        have mL1 := hfL (w.heap.size) 1 (by simp)
        simp [go_sem] at tL0 mL0 tL1 mL1
        simp [bodyPost, results, Tryd.results15, go_sem, tL0, mL0, tL1, mL1]
        exact (by repeat (first | refine Gr.setCell ?_ (by first | omega | (simp; done) | (simp; omega)) _ | refine Gr.alloc ?_ _ | refine Gr.drew ?_ | refine Gr.drewN ?_ _ | with_reducible assumption | with_reducible exact Gr.refl _ | refine Gr.trans ?_ (by with_reducible assumption)))
    · have q1 : decide (k < s.size) = true := decide_eq_true hk3
      rcases hfin.out with ⟨e2, rfl, rfl, rfl⟩ | ⟨rfl, rfl, rfl, rfl⟩
      all_goals
        clear hfin hsl
        go_enter Tryd.func15, Tryd.ntmps15
        go_wp2_with (first
          | (go_at_call 31; with_reducible refine (HN.out _).mono ?_; rintro e w1 ⟨rfl, hg1⟩; obtain ⟨hc1, hf1⟩ := hg1.cells; have hz1 := hg1.size; (try simp at hz1); (try have hl1_0_0 : w.heap.size < w1.heap.size := by omega); (try have hm1_0_0 : w.heap.size ≤ w1.heap.size := by omega); (try have hl1_0_1 : w.heap.size + 1 < w1.heap.size := by omega); (try have hl1_0_2 : w.heap.size + 2 < w1.heap.size := by omega))
          | (go_at_call 12; with_reducible refine (HF.out _).mono ?_; rintro e w3 ⟨rfl, hg3⟩; obtain ⟨hc3, hf3⟩ := hg3.cells; have hz3 := hg3.size; (try simp at hz3); (try have hl3_0_0 : w.heap.size < w3.heap.size := by omega); (try have hm3_0_0 : w.heap.size ≤ w3.heap.size := by omega); (try have hl3_0_1 : w.heap.size + 1 < w3.heap.size := by omega); (try have hl3_0_2 : w.heap.size + 2 < w3.heap.size := by omega); (try have hl3_1_0 : w1.heap.size < w3.heap.size := by omega); (try have hm3_1_0 : w1.heap.size ≤ w3.heap.size := by omega); (try have hl3_1_1 : w1.heap.size + 1 < w3.heap.size := by omega); (try have hl3_1_2 : w1.heap.size + 2 < w3.heap.size := by omega); (try have hl3_2_0 : w2.heap.size < w3.heap.size := by omega); (try have hm3_2_0 : w2.heap.size ≤ w3.heap.size := by omega); (try have hl3_2_1 : w2.heap.size + 1 < w3.heap.size := by omega); (try have hl3_2_2 : w2.heap.size + 2 < w3.heap.size := by omega)))
        have hgL : Gr (w.alloc (.cells #[.int .i64 0, .int .i64 0] 23)) w3 := (by repeat (first | with_reducible exact Gr.refl _ | with_reducible assumption | refine Gr.setCell ?_ (by first | omega | (simp; done) | (simp; omega)) _ | refine Gr.alloc ?_ _ | refine Gr.drew ?_ | refine Gr.drewN ?_ _ | refine Gr.trans ?_ (by with_reducible assumption)))
        obtain ⟨hcL, hfL⟩ := hgL.cells
        have tL0 := hcL (w.heap.size) 0 (by simp)
        have mL0 := hfL (w.heap.size) 0 (by simp)
        have tL1 := hcL (w.heap.size) 1 (by simp)
        have mL1 := hfL (w.heap.size) 1 (by simp)
        simp [go_sem] at tL0 mL0 tL1 mL1
        simp [bodyPost, results, Tryd.results15, go_sem, tL0, mL0, tL1, mL1]
        exact (by repeat (first | refine Gr.setCell ?_ (by first | omega | (simp; done) | (simp; omega)) _ | refine Gr.alloc ?_ _ | refine Gr.drew ?_ | refine Gr.drewN ?_ _ | with_reducible assumption | with_reducible exact Gr.refl _ | refine Gr.trans ?_ (by with_reducible assumption)))
  · rcases hsl.out with ⟨hk3, b1, H2⟩ | ⟨hk3, rfl⟩ | ⟨hk3, b1, rfl⟩
    · have H2 := Lib.hid H2
      have q1 : decide (k < s.size) = true := decide_eq_true hk3
      rcases hfin.out with ⟨e2, rfl, rfl, rfl⟩ | ⟨rfl, rfl, rfl, rfl⟩
      all_goals
        clear hfin hsl
        go_enter Tryd.func15, Tryd.ntmps15
        go_wp2_with (first
          | (go_at_call 31; with_reducible refine (HN.out _).mono ?_; rintro e w1 ⟨rfl, hg1⟩; obtain ⟨hc1, hf1⟩ := hg1.cells; have hz1 := hg1.size; (try simp at hz1); (try have hl1_0_0 : w.heap.size < w1.heap.size := by omega); (try have hm1_0_0 : w.heap.size ≤ w1.heap.size := by omega); (try have hl1_0_1 : w.heap.size + 1 < w1.heap.size := by omega); (try have hl1_0_2 : w.heap.size + 2 < w1.heap.size := by omega))
          | (go_at_call 31; with_reducible refine (H2.out _).mono ?_; rintro e w2 ⟨rfl, hg2⟩; obtain ⟨hc2, hf2⟩ := hg2.cells; have hz2 := hg2.size; (try simp at hz2); (try have hl2_0_0 : w.heap.size < w2.heap.size := by omega); (try have hm2_0_0 : w.heap.size ≤ w2.heap.size := by omega); (try have hl2_0_1 : w.heap.size + 1 < w2.heap.size := by omega); (try have hl2_0_2 : w.heap.size + 2 < w2.heap.size := by omega); (try have hl2_1_0 : w1.heap.size < w2.heap.size := by omega); (try have hm2_1_0 : w1.heap.size ≤ w2.heap.size := by omega); (try have hl2_1_1 : w1.heap.size + 1 < w2.heap.size := by omega); (try have hl2_1_2 : w1.heap.size + 2 < w2.heap.size := by omega))
          | (go_at_call 12; with_reducible refine (HF.out _).mono ?_; rintro e w3 ⟨rfl, hg3⟩; obtain ⟨hc3, hf3⟩ := hg3.cells; have hz3 := hg3.size; (try simp at hz3); (try have hl3_0_0 : w.heap.size < w3.heap.size := by omega); (try have hm3_0_0 : w.heap.size ≤ w3.heap.size := by omega); (try have hl3_0_1 : w.heap.size + 1 < w3.heap.size := by omega); (try have hl3_0_2 : w.heap.size + 2 < w3.heap.size := by omega); (try have hl3_1_0 : w1.heap.size < w3.heap.size := by omega); (try have hm3_1_0 : w1.heap.size ≤ w3.heap.size := by omega); (try have hl3_1_1 : w1.heap.size + 1 < w3.heap.size := by omega); (try have hl3_1_2 : w1.heap.size + 2 < w3.heap.size := by omega); (try have hl3_2_0 : w2.heap.size < w3.heap.size := by omega); (try have hm3_2_0 : w2.heap.size ≤ w3.heap.size := by omega); (try have hl3_2_1 : w2.heap.size + 1 < w3.heap.size := by omega); (try have hl3_2_2 : w2.heap.size + 2 < w3.heap.size := by omega)))
        have hgL : Gr (w.alloc (.cells #[.int .i64 0, .int .i64 0] 23)) w3 := (by repeat (first | with_reducible exact Gr.refl _ | with_reducible assumption | refine Gr.setCell ?_ (by first | omega | (simp; done) | (simp; omega)) _ | refine Gr.alloc ?_ _ | refine Gr.drew ?_ | refine Gr.drewN ?_ _ | refine Gr.trans ?_ (by with_reducible assumption)))
        obtain ⟨hcL, hfL⟩ := hgL.cells
        have tL0 := hcL (w.heap.size) 0 (by simp)
        have mL0 := hfL (w.heap.size) 0 (by simp)
        have tL1 := hcL (w.heap.size) 1 (by simp)
        have mL1 := hfL (w.heap.size) 1 (by simp)
        simp [go_sem] at tL0 mL0 tL1 mL1
        simp [bodyPost, results, Tryd.results15, go_sem, tL0, mL0, tL1, mL1]
        exact (by repeat (first | refine Gr.setCell ?_ (by first | omega | (simp; done) | (simp; omega)) _ | refine Gr.alloc ?_ _ | refine Gr.drew ?_ | refine Gr.drewN ?_ _ | with_reducible assumption | with_reducible exact Gr.refl _ | refine Gr.trans ?_ (by with_reducible assumption)))
    · have q1 : decide (k < s.size) = false := decide_eq_false (by omega)
      clear hk3
      rcases hfin.out with ⟨e2, rfl, rfl, rfl⟩ | ⟨rfl, rfl, rfl, rfl⟩
      all_goals
        clear hfin hsl
        go_enter Tryd.func15, Tryd.ntmps15
        go_wp2_with (first
          | (go_at_call 31; with_reducible refine (HN.out _).mono ?_; rintro e w1 ⟨rfl, hg1⟩; obtain ⟨hc1, hf1⟩ := hg1.cells; have hz1 := hg1.size; (try simp at hz1); (try have hl1_0_0 : w.heap.size < w1.heap.size := by omega); (try have hm1_0_0 : w.heap.size ≤ w1.heap.size := by omega); (try have hl1_0_1 : w.heap.size + 1 < w1.heap.size := by omega); (try have hl1_0_2 : w.heap.size + 2 < w1.heap.size := by omega))
          | (go_at_call 12; with_reducible refine (HF.out _).mono ?_; rintro e w3 ⟨rfl, hg3⟩; obtain ⟨hc3, hf3⟩ := hg3.cells; have hz3 := hg3.size; (try simp at hz3); (try have hl3_0_0 : w.heap.size < w3.heap.size := by omega); (try have hm3_0_0 : w.heap.size ≤ w3.heap.size := by omega); (try have hl3_0_1 : w.heap.size + 1 < w3.heap.size := by omega); (try have hl3_0_2 : w.heap.size + 2 < w3.heap.size := by omega); (try have hl3_1_0 : w1.heap.size < w3.heap.size := by omega); (try have hm3_1_0 : w1.heap.size ≤ w3.heap.size := by omega); (try have hl3_1_1 : w1.heap.size + 1 < w3.heap.size := by omega); (try have hl3_1_2 : w1.heap.size + 2 < w3.heap.size := by omega); (try have hl3_2_0 : w2.heap.size < w3.heap.size := by omega); (try have hm3_2_0 : w2.heap.size ≤ w3.heap.size := by omega); (try have hl3_2_1 : w2.heap.size + 1 < w3.heap.size := by omega); (try have hl3_2_2 : w2.heap.size + 2 < w3.heap.size := by omega)))
        have hgL : Gr (w.alloc (.cells #[.int .i64 0, .int .i64 0] 23)) w3 := (by repeat (first | with_reducible exact Gr.refl _ | with_reducible assumption | refine Gr.setCell ?_ (by first | omega | (simp; done) | (simp; omega)) _ | refine Gr.alloc ?_ _ | refine Gr.drew ?_ | refine Gr.drewN ?_ _ | refine Gr.trans ?_ (by with_reducible assumption)))
        obtain ⟨hcL, hfL⟩ := hgL.cells
        have tL0 := hcL (w.heap.size) 0 (by simp)
        have mL0 := hfL (w.heap.size) 0 (by simp)
        have tL1 := hcL (w.heap.size) 1 (by simp)
        have mL1 := hfL (w.heap.size) 1 (by simp)
        simp [go_sem] at tL0 mL0 tL1 mL1
        simp [bodyPost, results, Tryd.results15, go_sem, tL0, mL0, tL1, mL1]
        exact (by repeat (first | refine Gr.setCell ?_ (by first | omega | (simp; done) | (simp; omega)) _ | refine Gr.alloc ?_ _ | refine Gr.drew ?_ | refine Gr.drewN ?_ _ | with_reducible assumption | with_reducible exact Gr.refl _ | refine Gr.trans ?_ (by with_reducible assumption)))
    · have q1 : decide (k < s.size) = true := decide_eq_true hk3
      rcases hfin.out with ⟨e2, rfl, rfl, rfl⟩ | ⟨rfl, rfl, rfl, rfl⟩
      all_goals
        clear hfin hsl
        go_enter Tryd.func15, Tryd.ntmps15
        go_wp2_with (first
          | (go_at_call 31; with_reducible refine (HN.out _).mono ?_; rintro e w1 ⟨rfl, hg1⟩; obtain ⟨hc1, hf1⟩ := hg1.cells; have hz1 := hg1.size; (try simp at hz1); (try have hl1_0_0 : w.heap.size < w1.heap.size := by omega); (try have hm1_0_0 : w.heap.size ≤ w1.heap.size := by omega); (try have hl1_0_1 : w.heap.size + 1 < w1.heap.size := by omega); (try have hl1_0_2 : w.heap.size + 2 < w1.heap.size := by omega))
          | (go_at_call 12; with_reducible refine (HF.out _).mono ?_; rintro e w3 ⟨rfl, hg3⟩; obtain ⟨hc3, hf3⟩ := hg3.cells; have hz3 := hg3.size; (try simp at hz3); (try have hl3_0_0 : w.heap.size < w3.heap.size := by omega); (try have hm3_0_0 : w.heap.size ≤ w3.heap.size := by omega); (try have hl3_0_1 : w.heap.size + 1 < w3.heap.size := by omega); (try have hl3_0_2 : w.heap.size + 2 < w3.heap.size := by omega); (try have hl3_1_0 : w1.heap.size < w3.heap.size := by omega); (try have hm3_1_0 : w1.heap.size ≤ w3.heap.size := by omega); (try have hl3_1_1 : w1.heap.size + 1 < w3.heap.size := by omega); (try have hl3_1_2 : w1.heap.size + 2 < w3.heap.size := by omega); (try have hl3_2_0 : w2.heap.size < w3.heap.size := by omega); (try have hm3_2_0 : w2.heap.size ≤ w3.heap.size := by omega); (try have hl3_2_1 : w2.heap.size + 1 < w3.heap.size := by omega); (try have hl3_2_2 : w2.heap.size + 2 < w3.heap.size := by omega)))
        have hgL : Gr (w.alloc (.cells #[.int .i64 0, .int .i64 0] 23)) w3 := (by repeat (first | with_reducible exact Gr.refl _ | with_reducible assumption | refine Gr.setCell ?_ (by first | omega | (simp; done) | (simp; omega)) _ | refine Gr.alloc ?_ _ | refine Gr.drew ?_ | refine Gr.drewN ?_ _ | refine Gr.trans ?_ (by with_reducible assumption)))
        obtain ⟨hcL, hfL⟩ := hgL.cells
        have tL0 := hcL (w.heap.size) 0 (by simp)
        have mL0 := hfL (w.heap.size) 0 (by simp)
        have tL1 := hcL (w.heap.size) 1 (by simp)
        have mL1 := hfL (w.heap.size) 1 (by simp)
        simp [go_sem] at tL0 mL0 tL1 mL1
        simp [bodyPost, results, Tryd.results15, go_sem, tL0, mL0, tL1, mL1]
        exact (by repeat (first | refine Gr.setCell ?_ (by first | omega | (simp; done) | (simp; omega)) _ | refine Gr.alloc ?_ _ | refine Gr.drew ?_ | refine Gr.drewN ?_ _ | with_reducible assumption | with_reducible exact Gr.refl _ | refine Gr.trans ?_ (by with_reducible assumption)))
end Go.Proofs.YtclfiaemjdflbaaDoor
