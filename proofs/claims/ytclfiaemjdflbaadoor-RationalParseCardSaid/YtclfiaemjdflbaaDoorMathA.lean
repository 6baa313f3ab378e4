/-
  Plain arithmetic: greatest common divisors and magnitudes of integers. No program in sight.
  Conditions: none.
-/
import Derived.Below
import Derived.Lib.Hide
namespace Go.Proofs.YtclfiaemjdflbaaDoor
open Go.RowKit

/-- the magnitude of an integer -/
def mg (x : Int) : Int := if x < 0 then -x else x
theorem mg_abs (x : Int) : mg x = (x.natAbs : Int) := by unfold mg; split <;> omega
theorem mg_nonneg (x : Int) : 0 ≤ mg x := by unfold mg; split <;> omega
theorem mg_neg {x : Int} (h : x < 0) : mg x = -x := by unfold mg; rw [if_pos h]
theorem mg_pos {x : Int} (h : 0 ≤ x) : mg x = x := by unfold mg; rw [if_neg (by omega)]
theorem mg_lt (x : Int) (h1 : -9223372036854775808 ≤ x) (h2 : x ≤ 9223372036854775807) : mg x < 18446744073709551616 := by unfold mg; split <;> omega
theorem mg_le (x : Int) (h1 : -9223372036854775808 ≤ x) (h2 : x ≤ 9223372036854775807) : mg x ≤ 9223372036854775808 := by unfold mg; split <;> omega

/-- the greatest common divisor -/
def gc (x y : Int) : Int := (Int.gcd x y : Int)
theorem gc_zero (x : Int) (h : 0 ≤ x) : gc x 0 = x := by unfold gc; simp; omega
theorem gc_step (x y : Int) (hx : 0 ≤ x) (hy : 0 ≤ y) : gc y (x % y) = gc x y := by
  obtain ⟨x, rfl⟩ := Int.eq_ofNat_of_zero_le hx
  obtain ⟨y, rfl⟩ := Int.eq_ofNat_of_zero_le hy
  unfold gc
  rw [← Int.natCast_emod]
  simp only [Int.gcd_natCast_natCast]
  rw [Nat.gcd_comm x y, Nat.gcd_rec y x, Nat.gcd_comm]
theorem gc_nonneg (x y : Int) : 0 ≤ gc x y := by unfold gc; omega
theorem gc_le_left (x y : Int) (h : 0 < x) : gc x y ≤ x := by unfold gc; exact Int.gcd_le_left y h
theorem gc_le_right (x y : Int) (h : 0 < y) : gc x y ≤ y := by unfold gc; exact Int.gcd_le_right x h
theorem gc_pos_right (x y : Int) (h : 0 < y) : 0 < gc x y := by
  unfold gc
  have := Int.gcd_pos_of_ne_zero_right x (show y ≠ 0 by omega)
  omega
theorem gc_pos_left (x y : Int) (h : 0 < x) : 0 < gc x y := by
  unfold gc
  have := Int.gcd_pos_of_ne_zero_left y (show x ≠ 0 by omega)
  omega
theorem gc_mg (x y : Int) : gc (mg x) y = gc x y := by unfold gc; rw [mg_abs]; simp [Int.gcd]
theorem gc_mg_right (x y : Int) : gc x (mg y) = gc x y := by unfold gc; rw [mg_abs]; simp [Int.gcd]
theorem gc_dvd_left (x y : Int) : gc x y ∣ x := Int.gcd_dvd_left x y
theorem gc_dvd_right (x y : Int) : gc x y ∣ y := Int.gcd_dvd_right x y
end Go.Proofs.YtclfiaemjdflbaaDoor
