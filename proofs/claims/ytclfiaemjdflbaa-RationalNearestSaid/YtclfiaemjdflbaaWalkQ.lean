/-
  Position on both sides, and the walk of the law RationalPosition.
  Conditions: the arguments are integers of their kinds.
-/
import Derived.Test.YtclfiaemjdflbaaWalkP
import Derived.Test.YtclfiaemjdflbaaWalkN
namespace Go.Proofs.Ytclfiaemjdflbaa
open Go.RowKit
set_option linter.unusedSimpArgs false
set_option linter.unusedVariables false

theorem rplus_w (a b : Int) (w : World) (ha : 0 ≤ a) (hb : 0 ≤ b) (hf : Fit (a + b)) :
    Calls Try.prog 49 #[.agg #[.int .u64 (wH a), .int .u64 (wL a)], .agg #[.int .u64 (wH b), .int .u64 (wL b)]] w fun e w' => e = .returned (.agg #[.int .u64 (wH (a + b)), .int .u64 (wL (a + b))]) ∧ Gr w w' := by
  have fa : Fit a := by unfold Fit at *; rw [mg_pos (by omega)] at *; omega
  have fb : Fit b := by unfold Fit at *; rw [mg_pos (by omega)] at *; omega
  have := rplus_any (wH a) (wL a) (wH b) (wL b) w (wH_nonneg a) (wH_lt fa) (wL_nonneg a) (wL_lt a) (wH_nonneg b) (wH_lt fb) (wL_nonneg b) (wL_lt b)
  obtain ⟨e1, e2⟩ := plus_words (a := a) (b := b) (by rw [mg_pos (by omega), mg_pos ha, mg_pos hb]) hf
  rw [e1, e2] at this
  exact this
theorem words_opp (b : Int) : wH (-b) = wH b ∧ wL (-b) = wL b := by unfold wH wL; rw [mg_opp]; exact ⟨rfl, rfl⟩
theorem rminus_w (a b : Int) (w : World) (hb : 0 ≤ b) (hab : b ≤ a) (hf : Fit a) :
    Calls Try.prog 51 #[.agg #[.int .u64 (wH a), .int .u64 (wL a)], .agg #[.int .u64 (wH b), .int .u64 (wL b)]] w fun e w' => e = .returned (.agg #[.int .u64 (wH (a - b)), .int .u64 (wL (a - b))]) ∧ Gr w w' := by
  have fb : Fit b := by unfold Fit at *; rw [mg_pos (by omega)] at *; omega
  have := rminus_any (wH a) (wL a) (wH b) (wL b) w (wH_nonneg a) (wH_lt hf) (wL_nonneg a) (wL_lt a) (wH_nonneg b) (wH_lt fb) (wL_nonneg b) (wL_lt b)
  have fd : Fit (a + -b) := by unfold Fit at *; rw [mg_pos (by omega)] at *; omega
  obtain ⟨e1, e2⟩ := minus_words (a := a) (b := -b) (by rw [mg_opp, mg_pos (by omega), mg_pos (by omega), mg_pos hb]; omega) fd
  rw [(words_opp b).1, (words_opp b).2] at e1
  rw [(words_opp b).2] at e2
  rw [e1, e2] at this
  exact this

theorem position_no (n fn fd tn td : Int) (b1 b2 : Bool) (w : World) (hb : b1 = false ∨ (b1 = true ∧ b2 = false))
    (HF : ∀ w, Calls Try.prog 46 #[.agg #[.int .i64 fn, .int .i64 fd]] w fun e w' => e = .returned (.bool b1) ∧ Gr w w')
    (HT : ∀ w, Calls Try.prog 46 #[.agg #[.int .i64 tn, .int .i64 td]] w fun e w' => e = .returned (.bool b2) ∧ Gr w w') :
    Calls Try.prog 23 #[.int .i64 n, .agg #[.int .i64 fn, .int .i64 fd], .agg #[.int .i64 tn, .int .i64 td]] w fun e w' => e = .returned (.tuple #[.int .i64 0, .int .i64 1]) ∧ Gr w w' := by
  have HF := Lib.hid HF
  have HT := Lib.hid HT
  rcases hb with rfl | ⟨rfl, rfl⟩
  · go_enter Try.func23, Try.ntmps23
    go_wp2_with (go_at_call 46; with_reducible refine (HF.out _).mono ?_; rintro e w1 ⟨rfl, hg1⟩; obtain ⟨hc1, hf1⟩ := hg1.cells; have hz1 := hg1.size; (try simp at hz1); (try have hl1_0_0 : w.heap.size < w1.heap.size := by omega); (try have hm1_0_0 : w.heap.size ≤ w1.heap.size := by omega); (try have hl1_0_1 : w.heap.size + 1 < w1.heap.size := by omega); (try have hl1_0_2 : w.heap.size + 2 < w1.heap.size := by omega))
    go_ret2
    exact ⟨rfl, (by repeat (first | refine Gr.setCell ?_ (by first | omega | (simp; done) | (simp; omega)) _ | refine Gr.alloc ?_ _ | refine Gr.drew ?_ | refine Gr.drewN ?_ _ | with_reducible assumption | with_reducible exact Gr.refl _ | refine Gr.trans ?_ (by with_reducible assumption)))⟩
  · go_enter Try.func23, Try.ntmps23
    go_wp2_with (first
      | (go_at_call 46; with_reducible refine (HF.out _).mono ?_; rintro e w1 ⟨rfl, hg1⟩; obtain ⟨hc1, hf1⟩ := hg1.cells; have hz1 := hg1.size; (try simp at hz1); (try have hl1_0_0 : w.heap.size < w1.heap.size := by omega); (try have hm1_0_0 : w.heap.size ≤ w1.heap.size := by omega); (try have hl1_0_1 : w.heap.size + 1 < w1.heap.size := by omega); (try have hl1_0_2 : w.heap.size + 2 < w1.heap.size := by omega))
      | (go_at_call 46; with_reducible refine (HT.out _).mono ?_; rintro e w2 ⟨rfl, hg2⟩; obtain ⟨hc2, hf2⟩ := hg2.cells; have hz2 := hg2.size; (try simp at hz2); (try have hl2_0_0 : w.heap.size < w2.heap.size := by omega); (try have hm2_0_0 : w.heap.size ≤ w2.heap.size := by omega); (try have hl2_0_1 : w.heap.size + 1 < w2.heap.size := by omega); (try have hl2_0_2 : w.heap.size + 2 < w2.heap.size := by omega); (try have hl2_1_0 : w1.heap.size < w2.heap.size := by omega); (try have hm2_1_0 : w1.heap.size ≤ w2.heap.size := by omega); (try have hl2_1_1 : w1.heap.size + 1 < w2.heap.size := by omega); (try have hl2_1_2 : w1.heap.size + 2 < w2.heap.size := by omega)))
    go_ret2
    exact ⟨rfl, (by repeat (first | refine Gr.setCell ?_ (by first | omega | (simp; done) | (simp; omega)) _ | refine Gr.alloc ?_ _ | refine Gr.drew ?_ | refine Gr.drewN ?_ _ | with_reducible assumption | with_reducible exact Gr.refl _ | refine Gr.trans ?_ (by with_reducible assumption)))⟩
theorem rposition_no (n fn fd tn td : Int) (b1 b2 : Bool) (w : World) (hb : b1 = false ∨ (b1 = true ∧ b2 = false))
    (HF : ∀ w, Calls Try.prog 48 #[.agg #[.int .i64 fn, .int .i64 fd]] w fun e w' => e = .returned (.bool b1) ∧ Gr w w')
    (HT : ∀ w, Calls Try.prog 48 #[.agg #[.int .i64 tn, .int .i64 td]] w fun e w' => e = .returned (.bool b2) ∧ Gr w w') :
    Calls Try.prog 24 #[.int .i64 n, .agg #[.int .i64 fn, .int .i64 fd], .agg #[.int .i64 tn, .int .i64 td]] w fun e w' => e = .returned (.tuple #[.int .i64 0, .int .i64 1]) ∧ Gr w w' := by
  have HF := Lib.hid HF
  have HT := Lib.hid HT
  rcases hb with rfl | ⟨rfl, rfl⟩
  · go_enter Try.func24, Try.ntmps24
    go_wp2_with (go_at_call 48; with_reducible refine (HF.out _).mono ?_; rintro e w1 ⟨rfl, hg1⟩; obtain ⟨hc1, hf1⟩ := hg1.cells; have hz1 := hg1.size; (try simp at hz1); (try have hl1_0_0 : w.heap.size < w1.heap.size := by omega); (try have hm1_0_0 : w.heap.size ≤ w1.heap.size := by omega); (try have hl1_0_1 : w.heap.size + 1 < w1.heap.size := by omega); (try have hl1_0_2 : w.heap.size + 2 < w1.heap.size := by omega))
    go_ret2
    exact ⟨rfl, (by repeat (first | refine Gr.setCell ?_ (by first | omega | (simp; done) | (simp; omega)) _ | refine Gr.alloc ?_ _ | refine Gr.drew ?_ | refine Gr.drewN ?_ _ | with_reducible assumption | with_reducible exact Gr.refl _ | refine Gr.trans ?_ (by with_reducible assumption)))⟩
  · go_enter Try.func24, Try.ntmps24
    go_wp2_with (first
      | (go_at_call 48; with_reducible refine (HF.out _).mono ?_; rintro e w1 ⟨rfl, hg1⟩; obtain ⟨hc1, hf1⟩ := hg1.cells; have hz1 := hg1.size; (try simp at hz1); (try have hl1_0_0 : w.heap.size < w1.heap.size := by omega); (try have hm1_0_0 : w.heap.size ≤ w1.heap.size := by omega); (try have hl1_0_1 : w.heap.size + 1 < w1.heap.size := by omega); (try have hl1_0_2 : w.heap.size + 2 < w1.heap.size := by omega))
      | (go_at_call 48; with_reducible refine (HT.out _).mono ?_; rintro e w2 ⟨rfl, hg2⟩; obtain ⟨hc2, hf2⟩ := hg2.cells; have hz2 := hg2.size; (try simp at hz2); (try have hl2_0_0 : w.heap.size < w2.heap.size := by omega); (try have hm2_0_0 : w.heap.size ≤ w2.heap.size := by omega); (try have hl2_0_1 : w.heap.size + 1 < w2.heap.size := by omega); (try have hl2_0_2 : w.heap.size + 2 < w2.heap.size := by omega); (try have hl2_1_0 : w1.heap.size < w2.heap.size := by omega); (try have hm2_1_0 : w1.heap.size ≤ w2.heap.size := by omega); (try have hl2_1_1 : w1.heap.size + 1 < w2.heap.size := by omega); (try have hl2_1_2 : w1.heap.size + 2 < w2.heap.size := by omega)))
    go_ret2
    exact ⟨rfl, (by repeat (first | refine Gr.setCell ?_ (by first | omega | (simp; done) | (simp; omega)) _ | refine Gr.alloc ?_ _ | refine Gr.drew ?_ | refine Gr.drewN ?_ _ | with_reducible assumption | with_reducible exact Gr.refl _ | refine Gr.trans ?_ (by with_reducible assumption)))⟩

theorem ps_md {n A B : Int} (hB : 1 ≤ B) : psQ n A B = mdQ (2 * (n * A) + B) (2 * B) ∧ psE n A B = mdE (2 * (n * A) + B) (2 * B) := by
  have h : 1 ≤ 2 * B := by omega
  have e : psP n A B = mdP (2 * (n * A) + B) (2 * B) := rfl
  unfold psQ psE mdQ mdE
  rw [e]
  simp [h]

theorem rposition_yes (n fn fd tn td : Int) (w : World) (hn : I64 n) (hf : scB fn fd = true) (ht : scB tn td = true) :
    Calls Try.prog 24 #[.int .i64 n, .agg #[.int .i64 fn, .int .i64 fd], .agg #[.int .i64 tn, .int .i64 td]] w fun e w' => e = .returned (.tuple #[.int .i64 (psQ n (tn * fd) (td * fn)), .int .i64 (psE n (tn * fd) (td * fn))]) ∧ Gr w w' := by
  obtain ⟨f0, f1, f2, f3, f4⟩ := scB_out hf
  obtain ⟨t0, t1, t2, t3, t4⟩ := scB_out ht
  have HF := fun w => rscale_any fn fd w ⟨by omega, by omega⟩ ⟨by omega, by omega⟩
  have HT := fun w => rscale_any tn td w ⟨by omega, by omega⟩ ⟨by omega, by omega⟩
  rw [hf] at HF
  rw [ht] at HT
  obtain ⟨A, hA⟩ : ∃ A, tn * fd = A := ⟨_, rfl⟩
  obtain ⟨B, hB⟩ : ∃ B, td * fn = B := ⟨_, rfl⟩
  have a1 : 1 ≤ A ∧ A ≤ 4611686018427387904 := by rw [← hA]; exact scale_prod (by omega) t2 f3 f4
  have b1 : 1 ≤ B ∧ B ≤ 4611686018427387904 := by rw [← hB]; exact scale_prod t3 t4 (by omega) f2
  rw [hA, hB, (ps_md b1.1).1, (ps_md b1.1).2]
  have hmul : mg (n * A) = mg n * A := by rw [mg_mul, mg_pos (show 0 ≤ A by omega)]
  have hm := fit6_half hn a1.1 a1.2
  have hm0 := mg_nonneg (n * A)
  obtain ⟨u, hu⟩ : ∃ u, mg (n * A) = u := ⟨_, rfl⟩
  have hsign : (0 ≤ n → n * A = u) ∧ (n < 0 → n * A = -u ∧ 0 < u) := by
    refine ⟨fun h => ?_, fun h => ?_⟩
    · rw [← hu, mg_pos (Int.mul_nonneg h (by omega))]
    · have := Int.mul_neg_of_neg_of_pos h (show 0 < A by omega)
      have e := mg_neg this
      rw [hu] at e
      exact ⟨by omega, by omega⟩
  have HTM : ∀ w, Calls Try.prog 44 #[.int .u64 (mg n), .int .u64 A] w fun e w' => e = .returned (.agg #[.int .u64 (wH u), .int .u64 (wL u)]) ∧ Gr w w' := fun w => by
    have := times_any (mg n) A w (mg_nonneg n) (mg_lt n hn.1 hn.2) (by omega) (by omega)
    rw [← hmul, hu] at this
    have hwu : mg u = u := mg_pos (by omega)
    unfold wH wL
    rw [hwu]
    exact this
  rw [hu] at hm hm0
  have F2 : Fit (2 * u) := by unfold Fit; rw [mg_pos (by omega)]; omega
  have HPL : ∀ w, Calls Try.prog 49 #[.agg #[.int .u64 (wH u), .int .u64 (wL u)], .agg #[.int .u64 (wH u), .int .u64 (wL u)]] w fun e w' => e = .returned (.agg #[.int .u64 (wH (2 * u)), .int .u64 (wL (2 * u))]) ∧ Gr w w' := fun w => by
    have e : u + u = 2 * u := by omega
    have := rplus_w u u w hm0 hm0 (by rw [e]; exact F2)
    rw [e] at this
    exact this
  obtain ⟨w1, w2, w3⟩ := wN_small (D := B) (by omega) (by omega)
  have FB : Fit B := by unfold Fit; rw [mg_pos (by omega)]; omega
  have hd : 1 ≤ 2 * B := by omega
  obtain ⟨m1, m2, m3, m4, m5, m6⟩ := md_of (v := 2 * (n * A) + B) hd
  have core := fun p RQ RE => rposition_core n fn fd tn td A B u p RQ RE w hn (by omega) f2 f3 f4 (by omega) t2 t3 t4 hA hB a1.1 a1.2 b1.1 b1.2 HF HT (fun w => mag_any n w hn.1 hn.2) HTM HPL
  by_cases h0 : 0 ≤ n
  · have ev : 2 * (n * A) + B = 2 * u + B := by rw [hsign.1 h0]
    have hv0 : 0 ≤ 2 * (n * A) + B := by omega
    have hp : mg (2 * (n * A) + B) = 2 * u + B := by rw [mg_pos hv0, ev]
    rw [hp] at m1 m2 m3
    have FP : Fit (2 * u + B) := by unfold Fit; rw [mg_pos (by omega)]; omega
    have hq0 : 0 ≤ (2 * u + B) / (2 * B) := Int.ediv_nonneg (by omega) (by omega)
    refine core (2 * u + B) _ _ (.inl ⟨h0, fun w => ?_, ?_⟩)
    · have := rplus_w (2 * u) B w (by omega) (by omega) FP
      rw [w2, w3] at this
      exact this
    · by_cases ho : wH (2 * u + B) < 2 * B
      · have HO := fun w => over_yes (2 * u + B) (2 * B) w (by omega) FP ho (by omega)
        have hq1 := (wH_mg_lt (u := 2 * u + B) (by omega) hd).1 ho
        right
        by_cases hb : 9223372036854775808 < (2 * u + B) / (2 * B)
        · exact .inl ⟨_, _, hb, hq1, HO, (m1 hb).1, (m1 hb).2.2⟩
        · right
          by_cases hc : (2 * u + B) / (2 * B) ≤ 9223372036854775807
          · exact ⟨_, _, _, true, hq0, by omega, HO, fun w => signed_pos _ w hq0 hc, (m3 hv0 hc).1, (m3 hv0 hc).2.2⟩
          · have e : (2 * u + B) / (2 * B) = 9223372036854775808 := by omega
            refine ⟨_, _, -9223372036854775808, false, hq0, by omega, HO, fun w => ?_, (m2 hv0 e).1, (m2 hv0 e).2.2⟩
            rw [e]
            exact signed_pos_no w
      · have hb : 9223372036854775808 < (2 * u + B) / (2 * B) := by
          have := mt (wH_mg_lt (u := 2 * u + B) (by omega) hd).2 ho
          omega
        exact .inl ⟨fun w => over_no (2 * u + B) (2 * B) w ho, (m1 hb).1, (m1 hb).2.2⟩
  · have h0 : n < 0 := by omega
    obtain ⟨en, hu0⟩ := hsign.2 h0
    have HL := fun w => less_any B (2 * u) w (by omega) (by omega)
    rw [w2, w3] at HL
    by_cases hl : B < 2 * u
    · have hvl : vless B (2 * u) = true := decide_eq_true hl
      rw [hvl] at HL
      have ev : 2 * (n * A) + B = -(2 * u - B) := by rw [en]; omega
      have hv0 : 2 * (n * A) + B ≤ 0 := by omega
      have hp : mg (2 * (n * A) + B) = 2 * u - B := by rw [ev, mg_opp, mg_pos (by omega)]
      rw [hp] at m1 m4 m5 m6
      have FP : Fit (2 * u - B) := by unfold Fit; rw [mg_pos (by omega)]; omega
      have hq0 : 0 ≤ (2 * u - B) / (2 * B) := Int.ediv_nonneg (by omega) (by omega)
      have hr0 : 0 ≤ (2 * u - B) % (2 * B) := Int.emod_nonneg _ (by omega)
      refine core (2 * u - B) _ _ (.inr (.inl ⟨h0, HL, fun w => ?_, ?_⟩))
      · have := rminus_w (2 * u) B w (by omega) (by omega) F2
        rw [w2, w3] at this
        exact this
      · by_cases ho : wH (2 * u - B) < 2 * B
        · have HO := fun w => over_yes (2 * u - B) (2 * B) w (by omega) FP ho (by omega)
          have hq1 := (wH_mg_lt (u := 2 * u - B) (by omega) hd).1 ho
          right
          by_cases hb : 9223372036854775808 < (2 * u - B) / (2 * B)
          · exact .inl ⟨_, _, hb, hq1, HO, (m1 hb).1, (m1 hb).2.2⟩
          · right
            rcases (show (2 * u - B) % (2 * B) = 0 ∨ 0 < (2 * u - B) % (2 * B) by omega) with hr | hr
            · left
              obtain ⟨x1, x2, x3⟩ := m4 hv0 hr (by omega)
              rw [hr] at HO
              exact ⟨_, _, true, hq0, by omega, HO, fun w => signed_neg _ w hq0 (by omega), x1, x3⟩
            · right
              by_cases hc : (2 * u - B) / (2 * B) + 1 ≤ 9223372036854775808
              · obtain ⟨x1, x2, x3⟩ := m5 hv0 hr hc
                exact ⟨_, _, _, true, hq0, by omega, hr, HO, fun w => signed_neg _ w (by omega) hc, x1, x3⟩
              · have e : (2 * u - B) / (2 * B) + 1 = 9223372036854775809 := by omega
                obtain ⟨x1, x2, x3⟩ := m6 hv0 hr e
                refine ⟨_, _, 9223372036854775807, false, hq0, by omega, hr, HO, fun w => ?_, x1, x3⟩
                rw [e]
                exact signed_neg_no w
        · have hb : 9223372036854775808 < (2 * u - B) / (2 * B) := by
            have := mt (wH_mg_lt (u := 2 * u - B) (by omega) hd).2 ho
            omega
          exact .inl ⟨fun w => over_no (2 * u - B) (2 * B) w ho, (m1 hb).1, (m1 hb).2.2⟩
    · have hvl : vless B (2 * u) = false := decide_eq_false hl
      rw [hvl] at HL
      have hv0 : 0 ≤ 2 * (n * A) + B := by omega
      have hz : (2 * (n * A) + B) / (2 * B) = 0 := Int.ediv_eq_zero_of_lt hv0 (by omega)
      have hz' : mg (2 * (n * A) + B) / (2 * B) = 0 := by rw [mg_pos hv0, hz]
      obtain ⟨x1, x2, x3⟩ := m3 hv0 (by omega)
      exact core 0 _ _ (.inr (.inr ⟨h0, HL, x1.trans hz', x3⟩))

/-- Position of both sides -/
theorem position_both (n fn fd tn td : Int) (hn : I64 n) (h1 : I64 fn) (h2 : I64 fd) (h3 : I64 tn) (h4 : I64 td) : ∃ Q E : Int,
    (∀ w, Calls Try.prog 23 #[.int .i64 n, .agg #[.int .i64 fn, .int .i64 fd], .agg #[.int .i64 tn, .int .i64 td]] w fun e w' => e = .returned (.tuple #[.int .i64 Q, .int .i64 E]) ∧ Gr w w') ∧
    (∀ w, Calls Try.prog 24 #[.int .i64 n, .agg #[.int .i64 fn, .int .i64 fd], .agg #[.int .i64 tn, .int .i64 td]] w fun e w' => e = .returned (.tuple #[.int .i64 Q, .int .i64 E]) ∧ Gr w w') := by
  by_cases hf : scB fn fd = true
  · by_cases ht : scB tn td = true
    · exact ⟨_, _, fun w => position_yes n fn fd tn td w hn hf ht, fun w => rposition_yes n fn fd tn td w hn hf ht⟩
    · have ht : scB tn td = false := by simpa using ht
      exact ⟨0, 1, fun w => position_no n fn fd tn td _ _ w (.inr ⟨hf, ht⟩) (fun w => scale_any fn fd w h1 h2) (fun w => scale_any tn td w h3 h4), fun w => rposition_no n fn fd tn td _ _ w (.inr ⟨hf, ht⟩) (fun w => rscale_any fn fd w h1 h2) (fun w => rscale_any tn td w h3 h4)⟩
  · have hf : scB fn fd = false := by simpa using hf
    exact ⟨0, 1, fun w => position_no n fn fd tn td _ _ w (.inl hf) (fun w => scale_any fn fd w h1 h2) (fun w => scale_any tn td w h3 h4), fun w => rposition_no n fn fd tn td _ _ w (.inl hf) (fun w => rscale_any fn fd w h1 h2) (fun w => rscale_any tn td w h3 h4)⟩

theorem lawPosition_walk (n fn fd tn td : Int) (w : World) (hn : I64 n) (h1 : I64 fn) (h2 : I64 fd) (h3 : I64 tn) (h4 : I64 td) :
    Calls Try.prog 7 #[.int .i64 n, .agg #[.int .i64 fn, .int .i64 fd], .agg #[.int .i64 tn, .int .i64 td]] w fun e w' => e = .returned (.bool true) ∧ Gr w w' := by
  obtain ⟨Q, E, H1, H2⟩ := position_both n fn fd tn td hn h1 h2 h3 h4
  have H1 := Lib.hid H1
  have H2 := Lib.hid H2
  clear hn h1 h2 h3 h4
  go_enter Try.func7, Try.ntmps7
  go_wp2_with (first
    | (go_at_call 23; refine (H1.out _).mono ?_; rintro e w1 ⟨rfl, hg1⟩; obtain ⟨hc1, hf1⟩ := hg1.cells; have hz1 := hg1.size; (try simp at hz1); (try have hl1_0_0 : w.heap.size < w1.heap.size := by omega); (try have hm1_0_0 : w.heap.size ≤ w1.heap.size := by omega); (try have hl1_0_1 : w.heap.size + 1 < w1.heap.size := by omega); (try have hl1_0_2 : w.heap.size + 2 < w1.heap.size := by omega))
    | (go_at_call 24; refine (H2.out _).mono ?_; rintro e w2 ⟨rfl, hg2⟩; obtain ⟨hc2, hf2⟩ := hg2.cells; have hz2 := hg2.size; (try simp at hz2); (try have hl2_0_0 : w.heap.size < w2.heap.size := by omega); (try have hm2_0_0 : w.heap.size ≤ w2.heap.size := by omega); (try have hl2_0_1 : w.heap.size + 1 < w2.heap.size := by omega); (try have hl2_0_2 : w.heap.size + 2 < w2.heap.size := by omega); (try have hl2_1_0 : w1.heap.size < w2.heap.size := by omega); (try have hm2_1_0 : w1.heap.size ≤ w2.heap.size := by omega); (try have hl2_1_1 : w1.heap.size + 1 < w2.heap.size := by omega); (try have hl2_1_2 : w1.heap.size + 2 < w2.heap.size := by omega))
    | (go_at_call 14; refine (awake_any _).mono ?_; rintro e w3 ⟨rfl, hg3⟩; obtain ⟨hc3, hf3⟩ := hg3.cells; have hz3 := hg3.size; (try simp at hz3); (try have hl3_0_0 : w.heap.size < w3.heap.size := by omega); (try have hm3_0_0 : w.heap.size ≤ w3.heap.size := by omega); (try have hl3_0_1 : w.heap.size + 1 < w3.heap.size := by omega); (try have hl3_0_2 : w.heap.size + 2 < w3.heap.size := by omega); (try have hl3_1_0 : w1.heap.size < w3.heap.size := by omega); (try have hm3_1_0 : w1.heap.size ≤ w3.heap.size := by omega); (try have hl3_1_1 : w1.heap.size + 1 < w3.heap.size := by omega); (try have hl3_1_2 : w1.heap.size + 2 < w3.heap.size := by omega); (try have hl3_2_0 : w2.heap.size < w3.heap.size := by omega); (try have hm3_2_0 : w2.heap.size ≤ w3.heap.size := by omega); (try have hl3_2_1 : w2.heap.size + 1 < w3.heap.size := by omega); (try have hl3_2_2 : w2.heap.size + 2 < w3.heap.size := by omega)))
  go_ret
  exact ⟨ret_bool rfl, (by repeat (first | refine Gr.setCell ?_ (by first | omega | (simp; done) | (simp; omega)) _ | refine Gr.alloc ?_ _ | refine Gr.drew ?_ | refine Gr.drewN ?_ _ | with_reducible assumption | with_reducible exact Gr.refl _ | refine Gr.trans ?_ (by with_reducible assumption)))⟩
end Go.Proofs.Ytclfiaemjdflbaa
