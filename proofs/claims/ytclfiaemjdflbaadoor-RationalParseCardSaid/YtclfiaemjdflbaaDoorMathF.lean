/-
  Plain arithmetic: sums and quotients of wide integers. No program in sight.
  Conditions: none.
-/
import Derived.Test.YtclfiaemjdflbaaDoorMathB
namespace Go.Proofs.YtclfiaemjdflbaaDoor
open Go.RowKit
set_option linter.unusedVariables false

theorem words_of {h l v : Int} (hl0 : 0 ≤ l) (hl1 : l < 18446744073709551616) (e : h * 18446744073709551616 + l = mg v) : h = wH v ∧ l = wL v := by
  have a := wHL v
  have b := wL_nonneg v
  have c := wL_lt v
  omega
theorem plus_words {a b : Int} (h : mg (a + b) = mg a + mg b) (hf : Fit (a + b)) :
    (wH a + wH b + (wL a + wL b) / 18446744073709551616) % 18446744073709551616 = wH (a + b) ∧ (wL a + wL b) % 18446744073709551616 = wL (a + b) := by
  have a1 := wHL a
  have b1 := wHL b
  have c1 := wHL (a + b)
  have a2 := wL_nonneg a
  have a3 := wL_lt a
  have b2 := wL_nonneg b
  have b3 := wL_lt b
  have c2 := wL_nonneg (a + b)
  have c3 := wL_lt (a + b)
  have c4 := wH_lt hf
  have c5 := wH_nonneg (a + b)
  omega
theorem minus_words {a b : Int} (h : mg (a + b) = mg a - mg b) (hf : Fit (a + b)) :
    (wH a - wH b - bor (wL a) (wL b)) % 18446744073709551616 = wH (a + b) ∧ (wL a - wL b) % 18446744073709551616 = wL (a + b) := by
  have a1 := wHL a
  have b1 := wHL b
  have c1 := wHL (a + b)
  have a2 := wL_nonneg a
  have a3 := wL_lt a
  have b2 := wL_nonneg b
  have b3 := wL_lt b
  have c2 := wL_nonneg (a + b)
  have c3 := wL_lt (a + b)
  have c4 := wH_lt hf
  have c5 := wH_nonneg (a + b)
  unfold bor
  split <;> omega
theorem minus_words' {a b : Int} (h : mg (a + b) = mg b - mg a) (hf : Fit (a + b)) :
    (wH b - wH a - bor (wL b) (wL a)) % 18446744073709551616 = wH (a + b) ∧ (wL b - wL a) % 18446744073709551616 = wL (a + b) := by
  have := minus_words (a := b) (b := a) (by rw [Int.add_comm b a]; exact h) (by rw [Int.add_comm b a]; exact hf)
  rw [Int.add_comm b a] at this
  exact this
theorem mg_add_same {a b : Int} (h : wN a = wN b) : mg (a + b) = mg a + mg b := by
  unfold wN at h
  rw [decide_eq_decide] at h
  unfold mg
  split <;> split <;> split <;> omega
theorem wN_add_same {a b : Int} (h : wN a = wN b) : wN (a + b) = wN a := by
  unfold wN at *
  rw [decide_eq_decide] at *
  omega
theorem mg_add_diff {a b : Int} (h : wN a ≠ wN b) (hl : mg b ≤ mg a) : mg (a + b) = mg a - mg b := by
  unfold wN at h
  rw [Ne, decide_eq_decide] at h
  unfold mg at *
  split at hl <;> split at hl <;> split <;> simp_all <;> omega
theorem wN_add_diff {a b : Int} (h : wN a ≠ wN b) (hl : mg b ≤ mg a) : wN (a + b) = (wN a && !decide (a + b = 0)) := by
  unfold wN at *
  rw [Ne, decide_eq_decide] at h
  unfold mg at *
  rw [Bool.eq_iff_iff]
  simp only [Bool.and_eq_true, Bool.not_eq_true', decide_eq_true_eq, decide_eq_false_iff_not]
  split at hl <;> split at hl <;> omega
theorem words_zero (v : Int) : (decide (wH v = 0) && decide (wL v = 0)) = decide (v = 0) := by
  have a := wHL v
  have b := wL_nonneg v
  have c := wL_lt v
  have d := wH_nonneg v
  have e : v = 0 ↔ mg v = 0 := by unfold mg; split <;> omega
  rw [Bool.eq_iff_iff]
  simp only [Bool.and_eq_true, decide_eq_true_eq, e]
  omega
theorem less_words {a b : Int} : (wH a < wH b ∨ (wH a = wH b ∧ wL a < wL b)) ↔ mg a < mg b := by
  have a1 := wHL a
  have b1 := wHL b
  have a2 := wL_nonneg a
  have a3 := wL_lt a
  have b2 := wL_nonneg b
  have b3 := wL_lt b
  omega
/-- the quotient and the rest of a negative number, rounded down -/
theorem neg_div {v d : Int} (hv : v < 0) (hd : 0 < d) : (mg v % d = 0 → v / d = -(mg v / d) ∧ v % d = 0) ∧ (0 < mg v % d → v / d = -(mg v / d) - 1 ∧ v % d = d - mg v % d) := by
  rw [mg_neg hv]
  have h1 := Int.mul_ediv_add_emod (-v) d
  have h2 := Int.emod_nonneg (-v) (show d ≠ 0 by omega)
  have h3 := Int.emod_lt_of_pos (-v) hd
  have h4 := Int.mul_ediv_add_emod v d
  have h5 := Int.emod_nonneg v (show d ≠ 0 by omega)
  have h6 := Int.emod_lt_of_pos v hd
  generalize hq : (-v) / d = q at *
  generalize hr : (-v) % d = r at *
  refine ⟨fun h0 => ?_, fun h0 => ?_⟩
  · have e : v = d * (-q) + 0 := by rw [Int.mul_neg]; omega
    refine ⟨?_, ?_⟩
    · rw [e, Int.add_zero]; exact Int.mul_ediv_cancel_left _ (by omega)
    · rw [e, Int.add_zero]; exact Int.mul_emod_right _ _
  · have e : v = (d - r) + d * (-q - 1) := by rw [Int.mul_sub, Int.mul_neg, Int.mul_one]; omega
    refine ⟨?_, ?_⟩
    · rw [e, Int.add_mul_ediv_left _ _ (by omega), Int.ediv_eq_zero_of_lt (by omega) (by omega)]; omega
    · rw [e, Int.add_mul_emod_self_left, Int.emod_eq_of_lt (by omega) (by omega)]
end Go.Proofs.YtclfiaemjdflbaaDoor
