/-
  Contract of Parse of package rational, out of its parts.
  Conditions: the listed variables of strconv hold what their text lays; the string has at most 2^47 bytes.
-/
import Derived.Test.YtclfiaemjdflbaaDoorWalkCt
namespace Go.Proofs.YtclfiaemjdflbaaDoor
open Go.RowKit Go.Lib
set_option linter.unusedSimpArgs false
set_option linter.unusedVariables false

theorem pint_ok (s : ByteArray) (v : Int) (w : World) (hs : s.size ≤ 140737488355328) (h : Lib.parseIntB 64 s.data.toList = .ok v) :
    Calls Tryd.prog 29 #[.string s, .int .i64 10, .int .i64 64] w fun e w' => e = .returned (.tuple #[.int .i64 v, .nilIface]) ∧ Gr w w' :=
  (Tryd.strconv_ParseInt_10_at64_ok s (by omega) v h w).mono fun e w' ⟨he, hw⟩ => ⟨he, by
    rcases hw with rfl | ⟨t, rfl⟩
    · exact Gr.refl _
    · exact Lib.bytesWorld_below _ _ _⟩
theorem pint_bad (s : ByteArray) (w : World) (hT : Tabs w) (hs : s.size ≤ 140737488355328) (h : ∀ v, Lib.parseIntB 64 s.data.toList ≠ .ok v) :
    Calls Tryd.prog 29 #[.string s, .int .i64 10, .int .i64 64] w fun e w' => ∃ (x : Int) (N : Nat), e = .returned (.tuple #[.int .i64 x, .iface 84 (.pointer (some ⟨N, 0, none⟩))]) ∧ Gr w w' := by
  obtain ⟨_, ⟨t1, p1, h1⟩, ⟨t2, p2, h2⟩⟩ := hT
  cases hp : Lib.parseIntB 64 s.data.toList with
  | ok v => exact absurd hp (h v)
  | «syntax» => exact (Tryd.strconv_ParseInt_10_at64_syntax_var s (by omega) hp t1 p1 w h1).mono fun e w' ⟨N, he, _, _, hb⟩ => ⟨_, N, he, hb⟩
  | range => exact (Tryd.strconv_ParseInt_10_at64_range_var s (by omega) hp t2 p2 w h2).mono fun e w' ⟨N, he, _, _, hb⟩ => ⟨_, N, he, hb⟩

set_option maxRecDepth 20000 in
set_option maxHeartbeats 4000000 in
theorem parse_core (s c1 c2 den t : ByteArray) (fl : Bool) (v1 v2 RN RD RE : Int) (w : World) (hT : Tabs w) (hden : (fl = true ∧ den = c2) ∨ (fl = false ∧ den = ⟨#[49]⟩))
    (HC : ∀ w, Calls Tryd.prog 28 #[.string s, .string ⟨#[47]⟩] w fun e w' => e = .returned (.tuple #[.string c1, .string c2, .bool fl]) ∧ Gr w w')
    (hcase : ((∀ w, Tabs w → Calls Tryd.prog 29 #[.string c1, .int .i64 10, .int .i64 64] w fun e w' => ∃ (x : Int) (N : Nat), e = .returned (.tuple #[.int .i64 x, .iface 84 (.pointer (some ⟨N, 0, none⟩))]) ∧ Gr w w') ∧ RN = 0 ∧ RD = 0 ∧ RE = 3) ∨
      ((∀ w, Calls Tryd.prog 29 #[.string c1, .int .i64 10, .int .i64 64] w fun e w' => e = .returned (.tuple #[.int .i64 v1, .nilIface]) ∧ Gr w w') ∧
        (((∀ w, Tabs w → Calls Tryd.prog 29 #[.string den, .int .i64 10, .int .i64 64] w fun e w' => ∃ (x : Int) (N : Nat), e = .returned (.tuple #[.int .i64 x, .iface 84 (.pointer (some ⟨N, 0, none⟩))]) ∧ Gr w w') ∧ RN = 0 ∧ RD = 0 ∧ RE = 3) ∨
        ((∀ w, Calls Tryd.prog 29 #[.string den, .int .i64 10, .int .i64 64] w fun e w' => e = .returned (.tuple #[.int .i64 v2, .nilIface]) ∧ Gr w w') ∧
          (((∀ w, Calls Tryd.prog 17 #[.agg #[.int .i64 v1, .int .i64 v2]] w fun e w' => e = .returned (.bool false) ∧ Gr w w') ∧ RN = 0 ∧ RD = 0 ∧ RE = 3) ∨
          ((∀ w, Calls Tryd.prog 17 #[.agg #[.int .i64 v1, .int .i64 v2]] w fun e w' => e = .returned (.bool true) ∧ Gr w w') ∧ (∀ w, Tabs w → Calls Tryd.prog 11 #[.agg #[.int .i64 v1, .int .i64 v2]] w fun e w' => e = .returned (.string t) ∧ Gr w w') ∧
            (((t.toList == s.toList) = false ∧ RN = 0 ∧ RD = 0 ∧ RE = 3) ∨ (t = s ∧ RN = v1 ∧ RD = v2 ∧ RE = 0)))))))) :
    Calls Tryd.prog 13 #[.string s] w fun e w' => e = .returned (.tuple #[.agg #[.int .i64 RN, .int .i64 RD], .int .i64 RE]) ∧ Gr w w' := by
  have HC := Lib.hid HC
  have hT := Lib.hid hT
  rcases hcase with ⟨H1, rfl, rfl, rfl⟩ | ⟨H1, ⟨H2, rfl, rfl, rfl⟩ | ⟨H2, ⟨HV, rfl, rfl, rfl⟩ | ⟨HV, HF, ⟨hne, rfl, rfl, rfl⟩ | ⟨rfl, rfl, rfl, rfl⟩⟩⟩⟩
  · have H1 := Lib.hid H1
    rcases hden with ⟨rfl, rfl⟩ | ⟨rfl, rfl⟩
    all_goals
      go_enter Tryd.func13, Tryd.ntmps13
      go_wp2_with (first
        | (go_at_call 28; with_reducible refine (HC.out _).mono ?_; rintro e w1 ⟨rfl, hg1⟩; obtain ⟨hc1, hf1⟩ := hg1.cells; have hz1 := hg1.size; (try simp at hz1); (try have hl1_0_0 : w.heap.size < w1.heap.size := by omega); (try have hm1_0_0 : w.heap.size ≤ w1.heap.size := by omega); (try have hl1_0_1 : w.heap.size + 1 < w1.heap.size := by omega); (try have hl1_0_2 : w.heap.size + 2 < w1.heap.size := by omega))
        | (go_at_call 29; (with_reducible refine (H1.out _ (Tabs.gr (W := w) ?_ hT.out)).mono ?_); (· exact (by repeat (first | with_reducible exact Gr.refl _ | with_reducible assumption | refine Gr.setCell ?_ (by first | omega | (simp; done) | (simp; omega)) _ | refine Gr.alloc ?_ _ | refine Gr.drew ?_ | refine Gr.drewN ?_ _ | refine Gr.trans ?_ (by with_reducible assumption)))); rintro e w2 ⟨x, N, rfl, hg2⟩; obtain ⟨hc2, hf2⟩ := hg2.cells; have hz2 := hg2.size; (try simp at hz2); have hl2 : w.heap.size < w2.heap.size := (by omega)))
      have hgL : Gr (w.alloc (.cells #[.int .i64 0, .int .i64 0] 23)) w2 := (by repeat (first | with_reducible exact Gr.refl _ | with_reducible assumption | refine Gr.setCell ?_ (by first | omega | (simp; done) | (simp; omega)) _ | refine Gr.alloc ?_ _ | refine Gr.drew ?_ | refine Gr.drewN ?_ _ | refine Gr.trans ?_ (by with_reducible assumption)))
      obtain ⟨hcL, hfL⟩ := hgL.cells
      have tL0 := hcL (w.heap.size) 0 (by simp)
      have mL0 := hfL (w.heap.size) 0 (by simp)
      have tL1 := hcL (w.heap.size) 1 (by simp)
      have mL1 := hfL (w.heap.size) 1 (by simp)
      simp [go_sem] at tL0 mL0 tL1 mL1
      simp [bodyPost, results, Tryd.results13, go_sem, tL0, mL0, tL1, mL1]
      exact (by repeat (first | refine Gr.setCell ?_ (by first | omega | (simp; done) | (simp; omega)) _ | refine Gr.alloc ?_ _ | refine Gr.drew ?_ | refine Gr.drewN ?_ _ | with_reducible assumption | with_reducible exact Gr.refl _ | refine Gr.trans ?_ (by with_reducible assumption)))
  · have H1 := Lib.hid H1
    have H2 := Lib.hid H2
    rcases hden with ⟨rfl, rfl⟩ | ⟨rfl, rfl⟩
    all_goals
      go_enter Tryd.func13, Tryd.ntmps13
      go_wp2_with (first
        | (go_at_call 28; with_reducible refine (HC.out _).mono ?_; rintro e w1 ⟨rfl, hg1⟩; obtain ⟨hc1, hf1⟩ := hg1.cells; have hz1 := hg1.size; (try simp at hz1); (try have hl1_0_0 : w.heap.size < w1.heap.size := by omega); (try have hm1_0_0 : w.heap.size ≤ w1.heap.size := by omega); (try have hl1_0_1 : w.heap.size + 1 < w1.heap.size := by omega); (try have hl1_0_2 : w.heap.size + 2 < w1.heap.size := by omega))
        | ((go_at_call 29; with_reducible refine (H1.out _).mono ?_; rintro e w2 ⟨rfl, hg2⟩; obtain ⟨hc2, hf2⟩ := hg2.cells; have hz2 := hg2.size; (try simp at hz2); (try have hl2_0_0 : w.heap.size < w2.heap.size := by omega); (try have hm2_0_0 : w.heap.size ≤ w2.heap.size := by omega); (try have hl2_0_1 : w.heap.size + 1 < w2.heap.size := by omega); (try have hl2_0_2 : w.heap.size + 2 < w2.heap.size := by omega); (try have hl2_1_0 : w1.heap.size < w2.heap.size := by omega); (try have hm2_1_0 : w1.heap.size ≤ w2.heap.size := by omega); (try have hl2_1_1 : w1.heap.size + 1 < w2.heap.size := by omega); (try have hl2_1_2 : w1.heap.size + 2 < w2.heap.size := by omega)); have hl2 : w.heap.size < w2.heap.size := (by omega))
        | (go_at_call 29; (with_reducible refine (H2.out _ (Tabs.gr (W := w) ?_ hT.out)).mono ?_); (· exact (by repeat (first | with_reducible exact Gr.refl _ | with_reducible assumption | refine Gr.setCell ?_ (by first | omega | (simp; done) | (simp; omega)) _ | refine Gr.alloc ?_ _ | refine Gr.drew ?_ | refine Gr.drewN ?_ _ | refine Gr.trans ?_ (by with_reducible assumption)))); rintro e w3 ⟨x, N, rfl, hg3⟩; obtain ⟨hc3, hf3⟩ := hg3.cells; have hz3 := hg3.size; (try simp at hz3); have hl3 : w.heap.size < w3.heap.size := (by omega)))
      have hgL : Gr (w.alloc (.cells #[.int .i64 0, .int .i64 0] 23)) w3 := (by repeat (first | with_reducible exact Gr.refl _ | with_reducible assumption | refine Gr.setCell ?_ (by first | omega | (simp; done) | (simp; omega)) _ | refine Gr.alloc ?_ _ | refine Gr.drew ?_ | refine Gr.drewN ?_ _ | refine Gr.trans ?_ (by with_reducible assumption)))
      obtain ⟨hcL, hfL⟩ := hgL.cells
      have tL0 := hcL (w.heap.size) 0 (by simp)
      have mL0 := hfL (w.heap.size) 0 (by simp)
      have tL1 := hcL (w.heap.size) 1 (by simp)
      have mL1 := hfL (w.heap.size) 1 (by simp)
      simp [go_sem] at tL0 mL0 tL1 mL1
      simp [bodyPost, results, Tryd.results13, go_sem, tL0, mL0, tL1, mL1]
      exact (by repeat (first | refine Gr.setCell ?_ (by first | omega | (simp; done) | (simp; omega)) _ | refine Gr.alloc ?_ _ | refine Gr.drew ?_ | refine Gr.drewN ?_ _ | with_reducible assumption | with_reducible exact Gr.refl _ | refine Gr.trans ?_ (by with_reducible assumption)))
  · have H1 := Lib.hid H1
    have H2 := Lib.hid H2
    have HV := Lib.hid HV
    rcases hden with ⟨rfl, rfl⟩ | ⟨rfl, rfl⟩
    all_goals
      go_enter Tryd.func13, Tryd.ntmps13
      go_wp2_with (first
        | (go_at_call 28; with_reducible refine (HC.out _).mono ?_; rintro e w1 ⟨rfl, hg1⟩; obtain ⟨hc1, hf1⟩ := hg1.cells; have hz1 := hg1.size; (try simp at hz1); (try have hl1_0_0 : w.heap.size < w1.heap.size := by omega); (try have hm1_0_0 : w.heap.size ≤ w1.heap.size := by omega); (try have hl1_0_1 : w.heap.size + 1 < w1.heap.size := by omega); (try have hl1_0_2 : w.heap.size + 2 < w1.heap.size := by omega))
        | ((go_at_call 29; with_reducible refine (H1.out _).mono ?_; rintro e w2 ⟨rfl, hg2⟩; obtain ⟨hc2, hf2⟩ := hg2.cells; have hz2 := hg2.size; (try simp at hz2); (try have hl2_0_0 : w.heap.size < w2.heap.size := by omega); (try have hm2_0_0 : w.heap.size ≤ w2.heap.size := by omega); (try have hl2_0_1 : w.heap.size + 1 < w2.heap.size := by omega); (try have hl2_0_2 : w.heap.size + 2 < w2.heap.size := by omega); (try have hl2_1_0 : w1.heap.size < w2.heap.size := by omega); (try have hm2_1_0 : w1.heap.size ≤ w2.heap.size := by omega); (try have hl2_1_1 : w1.heap.size + 1 < w2.heap.size := by omega); (try have hl2_1_2 : w1.heap.size + 2 < w2.heap.size := by omega)); have hl2 : w.heap.size < w2.heap.size := (by omega))
        | ((go_at_call 29; with_reducible refine (H2.out _).mono ?_; rintro e w3 ⟨rfl, hg3⟩; obtain ⟨hc3, hf3⟩ := hg3.cells; have hz3 := hg3.size; (try simp at hz3); (try have hl3_0_0 : w.heap.size < w3.heap.size := by omega); (try have hm3_0_0 : w.heap.size ≤ w3.heap.size := by omega); (try have hl3_0_1 : w.heap.size + 1 < w3.heap.size := by omega); (try have hl3_0_2 : w.heap.size + 2 < w3.heap.size := by omega); (try have hl3_1_0 : w1.heap.size < w3.heap.size := by omega); (try have hm3_1_0 : w1.heap.size ≤ w3.heap.size := by omega); (try have hl3_1_1 : w1.heap.size + 1 < w3.heap.size := by omega); (try have hl3_1_2 : w1.heap.size + 2 < w3.heap.size := by omega); (try have hl3_2_0 : w2.heap.size < w3.heap.size := by omega); (try have hm3_2_0 : w2.heap.size ≤ w3.heap.size := by omega); (try have hl3_2_1 : w2.heap.size + 1 < w3.heap.size := by omega); (try have hl3_2_2 : w2.heap.size + 2 < w3.heap.size := by omega)); have hl3 : w.heap.size < w3.heap.size := (by omega))
        | ((go_at_call 17; with_reducible refine (HV.out _).mono ?_; rintro e w4 ⟨rfl, hg4⟩; obtain ⟨hc4, hf4⟩ := hg4.cells; have hz4 := hg4.size; (try simp at hz4); (try have hl4_0_0 : w.heap.size < w4.heap.size := by omega); (try have hm4_0_0 : w.heap.size ≤ w4.heap.size := by omega); (try have hl4_0_1 : w.heap.size + 1 < w4.heap.size := by omega); (try have hl4_0_2 : w.heap.size + 2 < w4.heap.size := by omega); (try have hl4_1_0 : w1.heap.size < w4.heap.size := by omega); (try have hm4_1_0 : w1.heap.size ≤ w4.heap.size := by omega); (try have hl4_1_1 : w1.heap.size + 1 < w4.heap.size := by omega); (try have hl4_1_2 : w1.heap.size + 2 < w4.heap.size := by omega); (try have hl4_2_0 : w2.heap.size < w4.heap.size := by omega); (try have hm4_2_0 : w2.heap.size ≤ w4.heap.size := by omega); (try have hl4_2_1 : w2.heap.size + 1 < w4.heap.size := by omega); (try have hl4_2_2 : w2.heap.size + 2 < w4.heap.size := by omega); (try have hl4_3_0 : w3.heap.size < w4.heap.size := by omega); (try have hm4_3_0 : w3.heap.size ≤ w4.heap.size := by omega); (try have hl4_3_1 : w3.heap.size + 1 < w4.heap.size := by omega); (try have hl4_3_2 : w3.heap.size + 2 < w4.heap.size := by omega)); have hl4 : w.heap.size < w4.heap.size := (by omega)))
      have hgL : Gr (w.alloc (.cells #[.int .i64 0, .int .i64 0] 23)) w4 := (by repeat (first | with_reducible exact Gr.refl _ | with_reducible assumption | refine Gr.setCell ?_ (by first | omega | (simp; done) | (simp; omega)) _ | refine Gr.alloc ?_ _ | refine Gr.drew ?_ | refine Gr.drewN ?_ _ | refine Gr.trans ?_ (by with_reducible assumption)))
      obtain ⟨hcL, hfL⟩ := hgL.cells
      have tL0 := hcL (w.heap.size) 0 (by simp)
      have mL0 := hfL (w.heap.size) 0 (by simp)
      have tL1 := hcL (w.heap.size) 1 (by simp)
      have mL1 := hfL (w.heap.size) 1 (by simp)
      simp [go_sem] at tL0 mL0 tL1 mL1
      simp [bodyPost, results, Tryd.results13, go_sem, tL0, mL0, tL1, mL1]
      exact (by repeat (first | refine Gr.setCell ?_ (by first | omega | (simp; done) | (simp; omega)) _ | refine Gr.alloc ?_ _ | refine Gr.drew ?_ | refine Gr.drewN ?_ _ | with_reducible assumption | with_reducible exact Gr.refl _ | refine Gr.trans ?_ (by with_reducible assumption)))
  · have H1 := Lib.hid H1
    have H2 := Lib.hid H2
    have HV := Lib.hid HV
    have HF := Lib.hid HF
    rcases hden with ⟨rfl, rfl⟩ | ⟨rfl, rfl⟩
    all_goals
      go_enter Tryd.func13, Tryd.ntmps13
      go_wp2_with (first
        | (go_at_call 28; with_reducible refine (HC.out _).mono ?_; rintro e w1 ⟨rfl, hg1⟩; obtain ⟨hc1, hf1⟩ := hg1.cells; have hz1 := hg1.size; (try simp at hz1); (try have hl1_0_0 : w.heap.size < w1.heap.size := by omega); (try have hm1_0_0 : w.heap.size ≤ w1.heap.size := by omega); (try have hl1_0_1 : w.heap.size + 1 < w1.heap.size := by omega); (try have hl1_0_2 : w.heap.size + 2 < w1.heap.size := by omega))
        | ((go_at_call 29; with_reducible refine (H1.out _).mono ?_; rintro e w2 ⟨rfl, hg2⟩; obtain ⟨hc2, hf2⟩ := hg2.cells; have hz2 := hg2.size; (try simp at hz2); (try have hl2_0_0 : w.heap.size < w2.heap.size := by omega); (try have hm2_0_0 : w.heap.size ≤ w2.heap.size := by omega); (try have hl2_0_1 : w.heap.size + 1 < w2.heap.size := by omega); (try have hl2_0_2 : w.heap.size + 2 < w2.heap.size := by omega); (try have hl2_1_0 : w1.heap.size < w2.heap.size := by omega); (try have hm2_1_0 : w1.heap.size ≤ w2.heap.size := by omega); (try have hl2_1_1 : w1.heap.size + 1 < w2.heap.size := by omega); (try have hl2_1_2 : w1.heap.size + 2 < w2.heap.size := by omega)); have hl2 : w.heap.size < w2.heap.size := (by omega))
        | ((go_at_call 29; with_reducible refine (H2.out _).mono ?_; rintro e w3 ⟨rfl, hg3⟩; obtain ⟨hc3, hf3⟩ := hg3.cells; have hz3 := hg3.size; (try simp at hz3); (try have hl3_0_0 : w.heap.size < w3.heap.size := by omega); (try have hm3_0_0 : w.heap.size ≤ w3.heap.size := by omega); (try have hl3_0_1 : w.heap.size + 1 < w3.heap.size := by omega); (try have hl3_0_2 : w.heap.size + 2 < w3.heap.size := by omega); (try have hl3_1_0 : w1.heap.size < w3.heap.size := by omega); (try have hm3_1_0 : w1.heap.size ≤ w3.heap.size := by omega); (try have hl3_1_1 : w1.heap.size + 1 < w3.heap.size := by omega); (try have hl3_1_2 : w1.heap.size + 2 < w3.heap.size := by omega); (try have hl3_2_0 : w2.heap.size < w3.heap.size := by omega); (try have hm3_2_0 : w2.heap.size ≤ w3.heap.size := by omega); (try have hl3_2_1 : w2.heap.size + 1 < w3.heap.size := by omega); (try have hl3_2_2 : w2.heap.size + 2 < w3.heap.size := by omega)); have hl3 : w.heap.size < w3.heap.size := (by omega))
        | ((go_at_call 17; with_reducible refine (HV.out _).mono ?_; rintro e w4 ⟨rfl, hg4⟩; obtain ⟨hc4, hf4⟩ := hg4.cells; have hz4 := hg4.size; (try simp at hz4); (try have hl4_0_0 : w.heap.size < w4.heap.size := by omega); (try have hm4_0_0 : w.heap.size ≤ w4.heap.size := by omega); (try have hl4_0_1 : w.heap.size + 1 < w4.heap.size := by omega); (try have hl4_0_2 : w.heap.size + 2 < w4.heap.size := by omega); (try have hl4_1_0 : w1.heap.size < w4.heap.size := by omega); (try have hm4_1_0 : w1.heap.size ≤ w4.heap.size := by omega); (try have hl4_1_1 : w1.heap.size + 1 < w4.heap.size := by omega); (try have hl4_1_2 : w1.heap.size + 2 < w4.heap.size := by omega); (try have hl4_2_0 : w2.heap.size < w4.heap.size := by omega); (try have hm4_2_0 : w2.heap.size ≤ w4.heap.size := by omega); (try have hl4_2_1 : w2.heap.size + 1 < w4.heap.size := by omega); (try have hl4_2_2 : w2.heap.size + 2 < w4.heap.size := by omega); (try have hl4_3_0 : w3.heap.size < w4.heap.size := by omega); (try have hm4_3_0 : w3.heap.size ≤ w4.heap.size := by omega); (try have hl4_3_1 : w3.heap.size + 1 < w4.heap.size := by omega); (try have hl4_3_2 : w3.heap.size + 2 < w4.heap.size := by omega)); have hl4 : w.heap.size < w4.heap.size := (by omega))
        | (go_at_call 11; (with_reducible refine (HF.out _ (Tabs.gr (W := w) ?_ hT.out)).mono ?_); (· exact (by repeat (first | with_reducible exact Gr.refl _ | with_reducible assumption | refine Gr.setCell ?_ (by first | omega | (simp; done) | (simp; omega)) _ | refine Gr.alloc ?_ _ | refine Gr.drew ?_ | refine Gr.drewN ?_ _ | refine Gr.trans ?_ (by with_reducible assumption)))); rintro e w5 ⟨rfl, hg5⟩; obtain ⟨hc5, hf5⟩ := hg5.cells; have hz5 := hg5.size; (try simp at hz5); have hl5 : w.heap.size < w5.heap.size := (by omega)))
      have hgL : Gr (w.alloc (.cells #[.int .i64 0, .int .i64 0] 23)) w5 := (by repeat (first | with_reducible exact Gr.refl _ | with_reducible assumption | refine Gr.setCell ?_ (by first | omega | (simp; done) | (simp; omega)) _ | refine Gr.alloc ?_ _ | refine Gr.drew ?_ | refine Gr.drewN ?_ _ | refine Gr.trans ?_ (by with_reducible assumption)))
      obtain ⟨hcL, hfL⟩ := hgL.cells
      have tL0 := hcL (w.heap.size) 0 (by simp)
      have mL0 := hfL (w.heap.size) 0 (by simp)
      have tL1 := hcL (w.heap.size) 1 (by simp)
      have mL1 := hfL (w.heap.size) 1 (by simp)
      simp [go_sem] at tL0 mL0 tL1 mL1
      simp [bodyPost, results, Tryd.results13, go_sem, tL0, mL0, tL1, mL1]
      exact (by repeat (first | refine Gr.setCell ?_ (by first | omega | (simp; done) | (simp; omega)) _ | refine Gr.alloc ?_ _ | refine Gr.drew ?_ | refine Gr.drewN ?_ _ | with_reducible assumption | with_reducible exact Gr.refl _ | refine Gr.trans ?_ (by with_reducible assumption)))
  · have H1 := Lib.hid H1
    have H2 := Lib.hid H2
    have HV := Lib.hid HV
    have HF := Lib.hid HF
    rcases hden with ⟨rfl, rfl⟩ | ⟨rfl, rfl⟩
    all_goals
      go_enter Tryd.func13, Tryd.ntmps13
      go_wp2_with (first
        | (go_at_call 28; with_reducible refine (HC.out _).mono ?_; rintro e w1 ⟨rfl, hg1⟩; obtain ⟨hc1, hf1⟩ := hg1.cells; have hz1 := hg1.size; (try simp at hz1); (try have hl1_0_0 : w.heap.size < w1.heap.size := by omega); (try have hm1_0_0 : w.heap.size ≤ w1.heap.size := by omega); (try have hl1_0_1 : w.heap.size + 1 < w1.heap.size := by omega); (try have hl1_0_2 : w.heap.size + 2 < w1.heap.size := by omega))
        | ((go_at_call 29; with_reducible refine (H1.out _).mono ?_; rintro e w2 ⟨rfl, hg2⟩; obtain ⟨hc2, hf2⟩ := hg2.cells; have hz2 := hg2.size; (try simp at hz2); (try have hl2_0_0 : w.heap.size < w2.heap.size := by omega); (try have hm2_0_0 : w.heap.size ≤ w2.heap.size := by omega); (try have hl2_0_1 : w.heap.size + 1 < w2.heap.size := by omega); (try have hl2_0_2 : w.heap.size + 2 < w2.heap.size := by omega); (try have hl2_1_0 : w1.heap.size < w2.heap.size := by omega); (try have hm2_1_0 : w1.heap.size ≤ w2.heap.size := by omega); (try have hl2_1_1 : w1.heap.size + 1 < w2.heap.size := by omega); (try have hl2_1_2 : w1.heap.size + 2 < w2.heap.size := by omega)); have hl2 : w.heap.size < w2.heap.size := (by omega))
        | ((go_at_call 29; with_reducible refine (H2.out _).mono ?_; rintro e w3 ⟨rfl, hg3⟩; obtain ⟨hc3, hf3⟩ := hg3.cells; have hz3 := hg3.size; (try simp at hz3); (try have hl3_0_0 : w.heap.size < w3.heap.size := by omega); (try have hm3_0_0 : w.heap.size ≤ w3.heap.size := by omega); (try have hl3_0_1 : w.heap.size + 1 < w3.heap.size := by omega); (try have hl3_0_2 : w.heap.size + 2 < w3.heap.size := by omega); (try have hl3_1_0 : w1.heap.size < w3.heap.size := by omega); (try have hm3_1_0 : w1.heap.size ≤ w3.heap.size := by omega); (try have hl3_1_1 : w1.heap.size + 1 < w3.heap.size := by omega); (try have hl3_1_2 : w1.heap.size + 2 < w3.heap.size := by omega); (try have hl3_2_0 : w2.heap.size < w3.heap.size := by omega); (try have hm3_2_0 : w2.heap.size ≤ w3.heap.size := by omega); (try have hl3_2_1 : w2.heap.size + 1 < w3.heap.size := by omega); (try have hl3_2_2 : w2.heap.size + 2 < w3.heap.size := by omega)); have hl3 : w.heap.size < w3.heap.size := (by omega))
        | ((go_at_call 17; with_reducible refine (HV.out _).mono ?_; rintro e w4 ⟨rfl, hg4⟩; obtain ⟨hc4, hf4⟩ := hg4.cells; have hz4 := hg4.size; (try simp at hz4); (try have hl4_0_0 : w.heap.size < w4.heap.size := by omega); (try have hm4_0_0 : w.heap.size ≤ w4.heap.size := by omega); (try have hl4_0_1 : w.heap.size + 1 < w4.heap.size := by omega); (try have hl4_0_2 : w.heap.size + 2 < w4.heap.size := by omega); (try have hl4_1_0 : w1.heap.size < w4.heap.size := by omega); (try have hm4_1_0 : w1.heap.size ≤ w4.heap.size := by omega); (try have hl4_1_1 : w1.heap.size + 1 < w4.heap.size := by omega); (try have hl4_1_2 : w1.heap.size + 2 < w4.heap.size := by omega); (try have hl4_2_0 : w2.heap.size < w4.heap.size := by omega); (try have hm4_2_0 : w2.heap.size ≤ w4.heap.size := by omega); (try have hl4_2_1 : w2.heap.size + 1 < w4.heap.size := by omega); (try have hl4_2_2 : w2.heap.size + 2 < w4.heap.size := by omega); (try have hl4_3_0 : w3.heap.size < w4.heap.size := by omega); (try have hm4_3_0 : w3.heap.size ≤ w4.heap.size := by omega); (try have hl4_3_1 : w3.heap.size + 1 < w4.heap.size := by omega); (try have hl4_3_2 : w3.heap.size + 2 < w4.heap.size := by omega)); have hl4 : w.heap.size < w4.heap.size := (by omega))
        | (go_at_call 11; (with_reducible refine (HF.out _ (Tabs.gr (W := w) ?_ hT.out)).mono ?_); (· exact (by repeat (first | with_reducible exact Gr.refl _ | with_reducible assumption | refine Gr.setCell ?_ (by first | omega | (simp; done) | (simp; omega)) _ | refine Gr.alloc ?_ _ | refine Gr.drew ?_ | refine Gr.drewN ?_ _ | refine Gr.trans ?_ (by with_reducible assumption)))); rintro e w5 ⟨rfl, hg5⟩; obtain ⟨hc5, hf5⟩ := hg5.cells; have hz5 := hg5.size; (try simp at hz5); have hl5 : w.heap.size < w5.heap.size := (by omega)))
      have hgL : Gr (w.alloc (.cells #[.int .i64 0, .int .i64 0] 23)) w5 := (by repeat (first | with_reducible exact Gr.refl _ | with_reducible assumption | refine Gr.setCell ?_ (by first | omega | (simp; done) | (simp; omega)) _ | refine Gr.alloc ?_ _ | refine Gr.drew ?_ | refine Gr.drewN ?_ _ | refine Gr.trans ?_ (by with_reducible assumption)))
      obtain ⟨hcL, hfL⟩ := hgL.cells
      have tL0 := hcL (w.heap.size) 0 (by simp)
      have mL0 := hfL (w.heap.size) 0 (by simp)
      have tL1 := hcL (w.heap.size) 1 (by simp)
      have mL1 := hfL (w.heap.size) 1 (by simp)
      simp [go_sem] at tL0 mL0 tL1 mL1
      simp [bodyPost, results, Tryd.results13, go_sem, tL0, mL0, tL1, mL1]
      exact (by repeat (first | refine Gr.setCell ?_ (by first | omega | (simp; done) | (simp; omega)) _ | refine Gr.alloc ?_ _ | refine Gr.drew ?_ | refine Gr.drewN ?_ _ | with_reducible assumption | with_reducible exact Gr.refl _ | refine Gr.trans ?_ (by with_reducible assumption)))
end Go.Proofs.YtclfiaemjdflbaaDoor
