/-
  Contracts of package rational's wide integers: sum, quotient, rest and sign.
  Conditions: the wide integers have at most 126 bits (sum) or fewer than 128 (the others); the divisor is not 0.
-/
import Derived.Test.YtclfiaemjdflbaaDoorWalkB
import Derived.Test.YtclfiaemjdflbaaDoorWalkC
import Derived.Test.YtclfiaemjdflbaaDoorWalkE
import Derived.Test.YtclfiaemjdflbaaDoorMathF
import Derived.Test.YtclfiaemjdflbaaDoorKit2
namespace Go.Proofs.YtclfiaemjdflbaaDoor
open Go.RowKit
set_option linter.unusedSimpArgs false
set_option linter.unusedVariables false

theorem wplus_any (a b : Int) (w : World) (ha : Fit6 a) (hb : Fit6 b) :
    Calls Tryd.prog 20 #[.agg #[.bool (wN a), .int .u64 (wH a), .int .u64 (wL a)], .agg #[.bool (wN b), .int .u64 (wH b), .int .u64 (wL b)]] w fun e w' =>
      e = .returned (.agg #[.bool (wN (a + b)), .int .u64 (wH (a + b)), .int .u64 (wL (a + b))]) ∧ Gr w w' := by
  have hf := ha.plus hb
  by_cases hn : wN a = wN b
  · obtain ⟨e1, e2⟩ := plus_words (mg_add_same hn) hf
    have e3 := wN_add_same hn
    refine (Eq.subst (motive := fun n => Calls _ _ #[.agg #[.bool (wN a), _, _], .agg #[.bool n, _, _]] _ _) hn (wplus_same (wH a) (wL a) (wH b) (wL b) (wN a) w (wH_nonneg a) (wH_lt ha.fit) (wL_nonneg a) (wL_lt a) (wH_nonneg b) (wH_lt hb.fit) (wL_nonneg b) (wL_lt b))).mono ?_
    rintro e w' ⟨rfl, hg⟩
    exact ⟨by rw [e1, e2, e3], hg⟩
  · have hn' : (wN a == wN b) = false := by simpa using hn
    have hz := words_zero (a + b)
    by_cases hl : mg b ≤ mg a
    · obtain ⟨e1, e2⟩ := minus_words (mg_add_diff hn hl) hf
      have e3 := wN_add_diff hn hl
      have hnl : ¬ (wH a < wH b ∨ (wH a = wH b ∧ wL a < wL b)) := by rw [less_words]; omega
      refine (wplus_ge (wH a) (wL a) (wH b) (wL b) (wN a) (wN b) w hn' (wH_nonneg a) (wH_lt ha.fit) (wL_nonneg a) (wL_lt a) (wH_nonneg b) (wH_lt hb.fit) (wL_nonneg b) (wL_lt b) (by omega) (by omega)).mono ?_
      rintro e w' ⟨rfl, hg⟩
      exact ⟨by rw [e1, e2, e3, or_ne_zero _ _ (wH_nonneg _) (wH_lt hf) (wL_nonneg _) (wL_lt _), hz], hg⟩
    · obtain ⟨e1, e2⟩ := minus_words' (mg_add_diff (a := b) (b := a) (fun h => hn h.symm) (by omega) ▸ (by rw [Int.add_comm])) hf
      have e3 := wN_add_diff (a := b) (b := a) (fun h => hn h.symm) (by omega)
      rw [Int.add_comm b a] at e3
      have hnl : wH a < wH b ∨ (wH a = wH b ∧ wL a < wL b) := by rw [less_words]; omega
      refine (wplus_lt (wH a) (wL a) (wH b) (wL b) (wN a) (wN b) w hn' (wH_nonneg a) (wH_lt ha.fit) (wL_nonneg a) (wL_lt a) (wH_nonneg b) (wH_lt hb.fit) (wL_nonneg b) (wL_lt b) hnl).mono ?_
      rintro e w' ⟨rfl, hg⟩
      exact ⟨by rw [e1, e2, e3, or_ne_zero _ _ (wH_nonneg _) (wH_lt hf) (wL_nonneg _) (wL_lt _), hz], hg⟩

theorem divw_any (v d q r : Int) (w : World) (hf : Fit v) (h1 : wH v < d) (h2 : d < 18446744073709551616) (hq : Hid (mg v / d = q)) (hr : Hid (mg v % d = r)) :
    Calls Tryd.prog 45 #[.int .u64 (wH v), .int .u64 (wL v), .int .u64 d] w fun e w' => e = .returned (.tuple #[.int .u64 q, .int .u64 r]) ∧ ∃ n, w' = w.drewN n := by
  refine (div64_any _ _ d w (wH_nonneg v) h1 (wL_nonneg v) (wL_lt v) h2).mono ?_
  rintro e w' ⟨rfl, hw⟩
  exact ⟨by rw [wHL, hq.out, hr.out], hw⟩

set_option maxHeartbeats 1000000 in
theorem divide_any (v d : Int) (w : World) (hf : Fit v) (hd : 1 ≤ d) (hd2 : d < 18446744073709551616) (P : Bool) (hP : Hid (decide (-9223372036854775808 ≤ v / d ∧ v / d ≤ 9223372036854775807) = P)) :
    Calls Tryd.prog 38 #[.agg #[.bool (wN v), .int .u64 (wH v), .int .u64 (wL v)], .int .u64 d] w fun e w' =>
      e = .returned (.tuple #[.int .i64 (if P then v / d else 0), .int .u64 (if P then v % d else 0), .bool P]) ∧ Gr w w' := by
  have b1 := wH_nonneg v
  have b2 := wL_nonneg v
  have b3 := wL_lt v
  have b4 := wH_lt hf
  have hA := wHL v
  have hq0 : 0 ≤ mg v / d := Int.ediv_nonneg (mg_nonneg v) (by omega)
  have hr0 : 0 ≤ mg v % d := Int.emod_nonneg _ (by omega)
  have hr1 : mg v % d < d := Int.emod_lt_of_pos _ (by omega)
  have hqA := Int.mul_ediv_add_emod (mg v) d
  by_cases hb : d ≤ wH v
  · have hbig : 18446744073709551616 ≤ mg v / d := by
      apply Int.le_ediv_of_mul_le (by omega)
      have : 18446744073709551616 * d ≤ 18446744073709551616 * wH v := by omega
      omega
    have hPf : P = false := by
      rw [← hP.out, decide_eq_false_iff_not]
      by_cases hv : v < 0
      · have := neg_div hv (show 0 < d by omega)
        omega
      · rw [mg_pos (by omega)] at hbig
        omega
    subst hPf
    clear hbig hP hA hqA
    go_enter Tryd.func38, Tryd.ntmps38
    go_wp2
    simp [bodyPost, results, Tryd.results38, go_sem]
    exact (by repeat (first | refine Gr.setCell ?_ (by first | omega | (simp; done) | (simp; omega)) _ | refine Gr.alloc ?_ _ | refine Gr.drew ?_ | refine Gr.drewN ?_ _ | with_reducible assumption | with_reducible exact Gr.refl _ | refine Gr.trans ?_ (by with_reducible assumption)))
  · have hdv : ∀ w, Calls Tryd.prog 45 #[.int .u64 (wH v), .int .u64 (wL v), .int .u64 d] w fun e w' => e = .returned (.tuple #[.int .u64 (mg v / d), .int .u64 (mg v % d)]) ∧ ∃ n, w' = w.drewN n :=
      fun w => divw_any v d _ _ w hf (by omega) hd2 rfl rfl
    have HD := Lib.hid hdv
    clear hdv
    clear hqA
    by_cases hv : v < 0
    · have hwn : wN v = true := decide_eq_true hv
      obtain ⟨n1, n2⟩ := neg_div hv (show 0 < d by omega)
      generalize mg v / d = q at *
      generalize mg v % d = r at *
      have hql : q < 18446744073709551616 ∨ 18446744073709551616 ≤ q := by omega
      rcases (show (9223372036854775808 < q) ∨ (q = 9223372036854775808 ∧ 0 < r) ∨ (q = 9223372036854775808 ∧ r = 0) ∨ (q < 9223372036854775808 ∧ 0 < r) ∨ (q < 9223372036854775808 ∧ r = 0) by omega) with c | ⟨c, c'⟩ | ⟨c, c'⟩ | ⟨c, c'⟩ | ⟨c, c'⟩
      · have hPf : P = false := by rw [← hP.out, decide_eq_false_iff_not]; omega
        subst hPf
        clear hP n1 n2 hql hA
        go_enter Tryd.func38, Tryd.ntmps38
        rw [hwn]
        go_wp2_with (go_at_call 45; refine (HD.out _).mono ?_; rintro e w' ⟨rfl, n, rfl⟩)
        simp [bodyPost, results, Tryd.results38, go_sem]
        exact (by repeat (first | refine Gr.setCell ?_ (by first | omega | (simp; done) | (simp; omega)) _ | refine Gr.alloc ?_ _ | refine Gr.drew ?_ | refine Gr.drewN ?_ _ | with_reducible assumption | with_reducible exact Gr.refl _ | refine Gr.trans ?_ (by with_reducible assumption)))
      · have hPf : P = false := by rw [← hP.out, decide_eq_false_iff_not]; omega
        have hc : (q == 9223372036854775808) = true := by simpa using c
        subst hPf
        clear hP n1 n2 hql hA
        go_enter Tryd.func38, Tryd.ntmps38
        rw [hwn]
        go_wp2_with (go_at_call 45; refine (HD.out _).mono ?_; rintro e w' ⟨rfl, n, rfl⟩)
        simp [bodyPost, results, Tryd.results38, go_sem]
        exact (by repeat (first | refine Gr.setCell ?_ (by first | omega | (simp; done) | (simp; omega)) _ | refine Gr.alloc ?_ _ | refine Gr.drew ?_ | refine Gr.drewN ?_ _ | with_reducible assumption | with_reducible exact Gr.refl _ | refine Gr.trans ?_ (by with_reducible assumption)))
      · have hPf : P = true := by rw [← hP.out, decide_eq_true_iff]; omega
        have hc : (q == 9223372036854775808) = true := by simpa using c
        obtain ⟨m1, m2⟩ := n1 c'
        subst hPf
        rw [m1, m2]
        have c0 : r ≤ 0 := by omega
        have c1 : q ≤ 9223372036854775808 := by omega
        clear hP n1 n2 hql hA m1 m2 c c'
        go_enter Tryd.func38, Tryd.ntmps38
        rw [hwn]
        go_wp2_with (go_at_call 45; refine (HD.out _).mono ?_; rintro e w' ⟨rfl, n, rfl⟩)
        simp [bodyPost, results, Tryd.results38, go_sem]
        have hq := eq_of_beq hc
        refine ⟨?_, (by repeat (first | refine Gr.setCell ?_ (by first | omega | (simp; done) | (simp; omega)) _ | refine Gr.alloc ?_ _ | refine Gr.drew ?_ | refine Gr.drewN ?_ _ | with_reducible assumption | with_reducible exact Gr.refl _ | refine Gr.trans ?_ (by with_reducible assumption)))⟩
        try refine ⟨?_, ?_⟩
        all_goals (try simp only [IntKind.wrap_u64, IntKind.wrap_i64])
        all_goals (try unfold wrap64)
        all_goals omega
      · have hPf : P = true := by rw [← hP.out, decide_eq_true_iff]; omega
        have hc : (q == 9223372036854775808) = false := by simp; omega
        obtain ⟨m1, m2⟩ := n2 c'
        subst hPf
        rw [m1, m2]
        clear hP n1 n2 hql hA m1 m2
        go_enter Tryd.func38, Tryd.ntmps38
        rw [hwn]
        go_wp2_with (go_at_call 45; refine (HD.out _).mono ?_; rintro e w' ⟨rfl, n, rfl⟩)
        simp [bodyPost, results, Tryd.results38, go_sem]
        refine ⟨?_, (by repeat (first | refine Gr.setCell ?_ (by first | omega | (simp; done) | (simp; omega)) _ | refine Gr.alloc ?_ _ | refine Gr.drew ?_ | refine Gr.drewN ?_ _ | with_reducible assumption | with_reducible exact Gr.refl _ | refine Gr.trans ?_ (by with_reducible assumption)))⟩
        try refine ⟨?_, ?_⟩
        all_goals (try simp only [IntKind.wrap_u64, IntKind.wrap_i64])
        all_goals (try unfold wrap64)
        all_goals omega
      · have hPf : P = true := by rw [← hP.out, decide_eq_true_iff]; omega
        have hc : (q == 9223372036854775808) = false := by simp; omega
        obtain ⟨m1, m2⟩ := n1 c'
        subst hPf
        rw [m1, m2]
        have c0 : r ≤ 0 := by omega
        clear hP n1 n2 hql hA m1 m2 c'
        go_enter Tryd.func38, Tryd.ntmps38
        rw [hwn]
        go_wp2_with (go_at_call 45; refine (HD.out _).mono ?_; rintro e w' ⟨rfl, n, rfl⟩)
        simp [bodyPost, results, Tryd.results38, go_sem]
        refine ⟨?_, (by repeat (first | refine Gr.setCell ?_ (by first | omega | (simp; done) | (simp; omega)) _ | refine Gr.alloc ?_ _ | refine Gr.drew ?_ | refine Gr.drewN ?_ _ | with_reducible assumption | with_reducible exact Gr.refl _ | refine Gr.trans ?_ (by with_reducible assumption)))⟩
        try refine ⟨?_, ?_⟩
        all_goals (try simp only [IntKind.wrap_u64, IntKind.wrap_i64])
        all_goals (try unfold wrap64)
        all_goals omega
    · have hwn : wN v = false := decide_eq_false hv
      rw [mg_pos (by omega)] at *
      generalize hq : v / d = q at *
      generalize hr : v % d = r at *
      by_cases c : 9223372036854775807 < q
      · have hPf : P = false := by rw [← hP.out, decide_eq_false_iff_not]; omega
        subst hPf
        clear hP hq hr hA
        go_enter Tryd.func38, Tryd.ntmps38
        rw [hwn]
        go_wp2_with (go_at_call 45; refine (HD.out _).mono ?_; rintro e w' ⟨rfl, n, rfl⟩)
        simp [bodyPost, results, Tryd.results38, go_sem]
        exact (by repeat (first | refine Gr.setCell ?_ (by first | omega | (simp; done) | (simp; omega)) _ | refine Gr.alloc ?_ _ | refine Gr.drew ?_ | refine Gr.drewN ?_ _ | with_reducible assumption | with_reducible exact Gr.refl _ | refine Gr.trans ?_ (by with_reducible assumption)))
      · have hPf : P = true := by rw [← hP.out, decide_eq_true_iff]; omega
        subst hPf
        clear hP hq hr hA
        go_enter Tryd.func38, Tryd.ntmps38
        rw [hwn]
        go_wp2_with (go_at_call 45; refine (HD.out _).mono ?_; rintro e w' ⟨rfl, n, rfl⟩)
        simp [bodyPost, results, Tryd.results38, go_sem]
        exact (by repeat (first | refine Gr.setCell ?_ (by first | omega | (simp; done) | (simp; omega)) _ | refine Gr.alloc ?_ _ | refine Gr.drew ?_ | refine Gr.drewN ?_ _ | with_reducible assumption | with_reducible exact Gr.refl _ | refine Gr.trans ?_ (by with_reducible assumption)))

set_option maxHeartbeats 400000 in
theorem modulo_any (v d : Int) (w : World) (hf : Fit v) (hd : 1 ≤ d) (hd2 : d < 18446744073709551616) :
    Calls Tryd.prog 37 #[.agg #[.bool (wN v), .int .u64 (wH v), .int .u64 (wL v)], .int .u64 d] w fun e w' => e = .returned (.int .u64 (mg v % d)) ∧ Gr w w' := by
  have b1 := wH_nonneg v
  have b2 := wL_nonneg v
  have b3 := wL_lt v
  have b4 := wH_lt hf
  go_enter Tryd.func37, Tryd.ntmps37
  go_wp2_with (go_at_call 44; refine (rem64_any _ _ d _ b1 b4 b2 b3 (by omega) hd2).mono ?_; rintro e w' ⟨rfl, n, rfl⟩)
  go_ret
  exact ⟨ret_int (by rw [wHL]), (by repeat (first | refine Gr.setCell ?_ (by first | omega | (simp; done) | (simp; omega)) _ | refine Gr.alloc ?_ _ | refine Gr.drew ?_ | refine Gr.drewN ?_ _ | with_reducible assumption | with_reducible exact Gr.refl _ | refine Gr.trans ?_ (by with_reducible assumption)))⟩

/-- a is less than b, as a Bool that no walk takes apart -/
def vless (a b : Int) : Bool := decide (a < b)

set_option maxHeartbeats 1000000 in
theorem less_any (a b : Int) (w : World) (ha : 0 ≤ a) (hb : 0 ≤ b) :
    Calls Tryd.prog 24 #[.agg #[.int .u64 (wH a), .int .u64 (wL a)], .agg #[.int .u64 (wH b), .int .u64 (wL b)]] w fun e w' => e = .returned (.bool (vless a b)) ∧ Gr w w' := by
  have hl := less_words (a := a) (b := b)
  rw [mg_pos ha, mg_pos hb] at hl
  rcases (show wH a < wH b ∨ (¬ wH a < wH b ∧ wH a = wH b ∧ wL a < wL b) ∨ (¬ wH a < wH b ∧ wH a = wH b ∧ ¬ wL a < wL b) ∨ (¬ wH a < wH b ∧ ¬ wH a = wH b) by omega) with c | ⟨c1, c2, c3⟩ | ⟨c1, c2, c3⟩ | ⟨c1, c2⟩
  · have e : vless a b = true := decide_eq_true (hl.1 (.inl c))
    rw [e]
    clear hl
    go_enter Tryd.func24, Tryd.ntmps24
    go_wp2
    go_ret
    exact ⟨ret_bool rfl, (by repeat (first | refine Gr.setCell ?_ (by first | omega | (simp; done) | (simp; omega)) _ | refine Gr.alloc ?_ _ | refine Gr.drew ?_ | refine Gr.drewN ?_ _ | with_reducible assumption | with_reducible exact Gr.refl _ | refine Gr.trans ?_ (by with_reducible assumption)))⟩
  · have e : vless a b = true := decide_eq_true (hl.1 (.inr ⟨c2, c3⟩))
    rw [e]
    have c4 : (wH a == wH b) = true := by simpa using c2
    clear hl c2
    go_enter Tryd.func24, Tryd.ntmps24
    go_wp2
    go_ret
    exact ⟨ret_bool rfl, (by repeat (first | refine Gr.setCell ?_ (by first | omega | (simp; done) | (simp; omega)) _ | refine Gr.alloc ?_ _ | refine Gr.drew ?_ | refine Gr.drewN ?_ _ | with_reducible assumption | with_reducible exact Gr.refl _ | refine Gr.trans ?_ (by with_reducible assumption)))⟩
  · have e : vless a b = false := decide_eq_false (fun h => by have := hl.2 h; omega)
    rw [e]
    have c4 : (wH a == wH b) = true := by simpa using c2
    clear hl c2
    go_enter Tryd.func24, Tryd.ntmps24
    go_wp2
    go_ret
    exact ⟨ret_bool rfl, (by repeat (first | refine Gr.setCell ?_ (by first | omega | (simp; done) | (simp; omega)) _ | refine Gr.alloc ?_ _ | refine Gr.drew ?_ | refine Gr.drewN ?_ _ | with_reducible assumption | with_reducible exact Gr.refl _ | refine Gr.trans ?_ (by with_reducible assumption)))⟩
  · have e : vless a b = false := decide_eq_false (fun h => by have := hl.2 h; omega)
    rw [e]
    have c4 : (wH a == wH b) = false := by simpa using c2
    clear hl c2
    go_enter Tryd.func24, Tryd.ntmps24
    go_wp2
    go_ret
    exact ⟨ret_bool rfl, (by repeat (first | refine Gr.setCell ?_ (by first | omega | (simp; done) | (simp; omega)) _ | refine Gr.alloc ?_ _ | refine Gr.drew ?_ | refine Gr.drewN ?_ _ | with_reducible assumption | with_reducible exact Gr.refl _ | refine Gr.trans ?_ (by with_reducible assumption)))⟩
theorem times_v (a b : Int) (w : World) (a1 : 0 ≤ a) (a2 : a < 18446744073709551616) (b1 : 0 ≤ b) (b2 : b < 18446744073709551616) :
    Calls Tryd.prog 22 #[.int .u64 a, .int .u64 b] w fun e w' => e = .returned (.agg #[.int .u64 (wH (a * b)), .int .u64 (wL (a * b))]) ∧ Gr w w' := by
  have := times_any a b w a1 a2 b1 b2
  unfold wH wL
  rw [mg_pos (Int.mul_nonneg a1 b1)]
  exact this
end Go.Proofs.YtclfiaemjdflbaaDoor
