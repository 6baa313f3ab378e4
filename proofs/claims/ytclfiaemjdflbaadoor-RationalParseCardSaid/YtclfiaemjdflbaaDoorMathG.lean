/-
  Plain arithmetic: valid numbers, numbers in lowest terms, rounding. No program in sight.
  Conditions: none.
-/
import Derived.Test.YtclfiaemjdflbaaDoorMathA
namespace Go.Proofs.YtclfiaemjdflbaaDoor
open Go.RowKit
set_option linter.unusedVariables false

/-- a valid number -/
def vB (n d : Int) : Bool := decide (1 ≤ d ∧ -9223372036854775808 < n ∧ gc n d = 1)
theorem vB_true {n d : Int} (h1 : 1 ≤ d) (h2 : -9223372036854775808 < n) (h3 : gc n d = 1) : vB n d = true := decide_eq_true ⟨h1, h2, h3⟩
theorem vB_den {n d : Int} (h : ¬ 1 ≤ d) : vB n d = false := decide_eq_false fun x => h x.1
theorem vB_num {n d : Int} (h : ¬ -9223372036854775808 < n) : vB n d = false := decide_eq_false fun x => h x.2.1
theorem vB_gc {n d : Int} (h : ¬ gc n d = 1) : vB n d = false := decide_eq_false fun x => h x.2.2
theorem vB_inv {n d : Int} (h : vB n d = true) : 1 ≤ d ∧ -9223372036854775808 < n ∧ gc n d = 1 := of_decide_eq_true h

/-- the number n/d in lowest terms, where it is not too large: numerator, denominator and error -/
def rF (n d : Int) : Bool := decide (mg n / gc n d ≤ 9223372036854775807 ∧ d / gc n d ≤ 9223372036854775807)
def rN (n d : Int) : Int := if rF n d then n / gc n d else 0
def rD (n d : Int) : Int := if rF n d then d / gc n d else 0
def rE (n d : Int) : Int := if rF n d then 0 else 2
/-- n/d for any n, d, as Of gives it -/
def oN (n d : Int) : Int := if d = 0 then 0 else if d < 0 then rN (-n) (-d) else rN n d
def oD (n d : Int) : Int := if d = 0 then 0 else if d < 0 then rD (-n) (-d) else rD n d
def oE (n d : Int) : Int := if d = 0 then 1 else if d < 0 then rE (-n) (-d) else rE n d
theorem mg_div {n g : Int} (hg : g ∣ n) : mg n / g = mg (n / g) ∨ g < 0 := by
  rcases Int.lt_or_le g 0 with h | h
  · exact .inr h
  · left
    obtain ⟨k, rfl⟩ := hg
    rcases Int.lt_or_eq_of_le h with h0 | h0
    · rw [Int.mul_ediv_cancel_left _ (by omega)]
      by_cases hk : k < 0
      · rw [mg_neg hk, mg_neg (Int.mul_neg_of_pos_of_neg h0 hk), ← Int.mul_neg, Int.mul_ediv_cancel_left _ (by omega)]
      · rw [mg_pos (show 0 ≤ k by omega), mg_pos (Int.mul_nonneg h (show 0 ≤ k by omega)), Int.mul_ediv_cancel_left _ (by omega)]
    · rw [← h0]; simp [mg]
theorem mg_quot (n d : Int) : mg n / gc n d = mg (n / gc n d) := by
  rcases mg_div (gc_dvd_left n d) with h | h
  · exact h
  · have := gc_nonneg n d; omega
end Go.Proofs.YtclfiaemjdflbaaDoor
