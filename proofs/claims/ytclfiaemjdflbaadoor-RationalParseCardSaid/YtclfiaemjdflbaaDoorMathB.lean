/-
  Plain arithmetic: wide integers as sign, high word and low word; division of two words by one. No program in sight.
  Conditions: none.
-/
import Derived.Test.YtclfiaemjdflbaaDoorMathA
namespace Go.Proofs.YtclfiaemjdflbaaDoor
open Go.RowKit

/-- sign, high word and low word of an integer of up to 128 bits -/
def wN (v : Int) : Bool := decide (v < 0)
def wH (v : Int) : Int := mg v / 18446744073709551616
def wL (v : Int) : Int := mg v % 18446744073709551616/-- the borrow of x - y -/
def bor (x y : Int) : Int := if x < y then 1 else 0
theorem wH_nonneg (v : Int) : 0 ≤ wH v := Int.ediv_nonneg (mg_nonneg v) (by omega)
theorem wL_nonneg (v : Int) : 0 ≤ wL v := Int.emod_nonneg _ (by omega)
theorem wL_lt (v : Int) : wL v < 18446744073709551616 := Int.emod_lt_of_pos _ (by omega)
/-- fewer than 128 bits -/
def Fit (v : Int) : Prop := mg v < 340282366920938463463374607431768211456
/-- at most 2^126 -/
def Fit6 (v : Int) : Prop := mg v ≤ 85070591730234615865843651857942052864
theorem wH_lt {v : Int} (h : Fit v) : wH v < 18446744073709551616 := by unfold Fit at h; unfold wH; omega
theorem wHL (v : Int) : wH v * 18446744073709551616 + wL v = mg v := by unfold wH wL; omega
theorem Fit6.fit {v : Int} (h : Fit6 v) : Fit v := by unfold Fit6 at h; unfold Fit; omega
theorem Fit6.plus {a b : Int} (h : Fit6 a) (h' : Fit6 b) : Fit (a + b) := by
  unfold Fit6 mg at *; unfold Fit mg
  split at h <;> split at h' <;> split <;> omega
theorem mg_mul (x y : Int) : mg (x * y) = mg x * mg y := by rw [mg_abs, mg_abs, mg_abs, Int.natAbs_mul, Int.natCast_mul]
theorem fit6_mul (x y : Int) (h1 : -9223372036854775808 ≤ x) (h2 : x ≤ 9223372036854775807) (h3 : -9223372036854775808 ≤ y) (h4 : y ≤ 9223372036854775807) : Fit6 (x * y) := by
  unfold Fit6
  rw [mg_mul]
  have := Int.mul_le_mul (mg_le x h1 h2) (mg_le y h3 h4) (mg_nonneg y) (by omega)
  omega
theorem wN_mul (x y : Int) : wN (x * y) = ((decide (x < 0) != decide (y < 0)) && !(decide (x * y = 0))) := by
  unfold wN
  rcases Int.lt_trichotomy x 0 with hx | rfl | hx <;> rcases Int.lt_trichotomy y 0 with hy | rfl | hy
  · have := Int.mul_pos_of_neg_of_neg hx hy; simp [hx, hy]; omega
  · simp
  · have := Int.mul_neg_of_neg_of_pos hx hy
    rw [decide_eq_true (show x * y < 0 from this), decide_eq_true hx, decide_eq_false (show ¬ y < 0 by omega), decide_eq_false (show ¬ x * y = 0 by omega)]; rfl
  · simp
  · simp
  · simp
  · have := Int.mul_neg_of_pos_of_neg hx hy
    rw [decide_eq_true (show x * y < 0 from this), decide_eq_true hy, decide_eq_false (show ¬ x < 0 by omega), decide_eq_false (show ¬ x * y = 0 by omega)]; rfl
  · simp
  · have := Int.mul_pos hx hy
    rw [decide_eq_false (show ¬ x * y < 0 by omega), decide_eq_false (show ¬ x < 0 by omega), decide_eq_false (show ¬ y < 0 by omega)]; rfl
theorem mul_words (x y : Int) : (decide (mg x * mg y / 18446744073709551616 = 0) && decide (mg x * mg y % 18446744073709551616 = 0)) = decide (x * y = 0) := by
  rw [← mg_mul]
  have h : x * y = 0 ↔ mg (x * y) = 0 := by unfold mg; split <;> omega
  have h0 := mg_nonneg (x * y)
  rw [Bool.eq_iff_iff]
  simp only [Bool.and_eq_true, decide_eq_true_eq, h]
  omega

end Go.Proofs.YtclfiaemjdflbaaDoor
