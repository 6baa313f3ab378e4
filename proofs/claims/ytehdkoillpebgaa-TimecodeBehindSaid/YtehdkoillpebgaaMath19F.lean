/-
  Plain arithmetic of timecodes: the clock, and rates of 1000/1001 of a base. No program in sight.
  Conditions: none.
-/
import Derived.Test.YtehdkoillpebgaaMath19E
import Derived.Test.YtehdkoillpebgaaMathG
namespace Go.Proofs.Ytehdkoillpebgaa
open Go.RowKit
set_option linter.unusedVariables false

/-- the time of a frame's label, in units of 1/base seconds -/
def tmL (n b : Int) (d : Bool) : Int := 60 * (b * lm n b d) + lf n b d
theorem tmL_eq {n b : Int} {d : Bool} (ho : okB b d = true) : ((lm n b d / 60 * 60 + lm n b d % 60) * 60 + lf n b d / b) * b + lf n b d % b = tmL n b d := by
  have h1 : lm n b d / 60 * 60 + lm n b d % 60 = lm n b d := by omega
  have h2 := Int.mul_ediv_add_emod (lf n b d) b
  rw [h1]
  unfold tmL
  rw [Int.add_mul, Int.mul_comm (lf n b d / b) b, Int.mul_right_comm, Int.mul_comm (lm n b d) b]
  omega
theorem tmL_bounds {n b : Int} {d : Bool} (ho : okB b d = true) : 0 ≤ tmL n b d ∧ tmL n b d ≤ 5184000 := by
  obtain ⟨l1, l2, l3, l4⟩ := l_bounds (n := n) ho
  have hb := okB_bounds ho
  unfold tmL
  have a1 : 0 ≤ b * lm n b d := Int.mul_nonneg (by omega) l1
  have a2 : b * lm n b d ≤ b * 1439 := Int.mul_le_mul_of_nonneg_left (by omega) (by omega)
  omega
theorem tmL_nodrop {n b : Int} (ho : okB b false = true) (h0 : 0 ≤ n) (h1 : n < dayN b false) : tmL n b false = n := by
  unfold tmL lm lf
  rw [Int.emod_eq_of_lt h0 h1]
  unfold rMin rFrm
  rcases okB_cases ho with ⟨rfl, _⟩ | ⟨rfl, _⟩ | ⟨rfl, _⟩ | ⟨rfl, _⟩ | ⟨rfl, _⟩ | ⟨rfl, _⟩ | ⟨rfl, h⟩ | ⟨rfl, h⟩
  case inr.inr.inr.inr.inr.inr.inl | inr.inr.inr.inr.inr.inr.inr => cases h
  all_goals simp only [drp, Bool.false_eq_true, if_false]; split <;> omega
theorem clock30 {n : Int} (h0 : 0 ≤ n) (h1 : n < 2589408) : -2000 < 1000 * tmL n 30 true - 1001 * n ∧ 1000 * tmL n 30 true - 1001 * n < 4500 := by
  have hd : dayN 30 true = 2589408 := by decide
  unfold tmL lm lf
  rw [hd, Int.emod_eq_of_lt h0 h1]
  unfold rMin rFrm
  simp only [drp, if_true]
  split <;> omega
theorem clock60 {n : Int} (h0 : 0 ≤ n) (h1 : n < 5178816) : -4000 < 1000 * tmL n 60 true - 1001 * n ∧ 1000 * tmL n 60 true - 1001 * n < 9000 := by
  have hd : dayN 60 true = 5178816 := by decide
  unfold tmL lm lf
  rw [hd, Int.emod_eq_of_lt h0 h1]
  unfold rMin rFrm
  simp only [drp, if_true]
  split <;> omega
/-- a number in lowest terms, small enough -/
theorem of_small {X Z : Int} (hz : 0 < Z) (hz2 : Z ≤ 9223372036854775807) (h1 : -9223372036854775807 ≤ X) (h2 : X ≤ 9223372036854775807) :
    oN X Z = X / gc X Z ∧ oD X Z = Z / gc X Z ∧ oE X Z = 0 := by
  have g1 := gc_pos_right X Z hz
  have m1 : mg X ≤ 9223372036854775807 := by unfold mg; split <;> omega
  have m0 := mg_nonneg X
  have hF : rF X Z = true := by
    unfold rF
    exact decide_eq_true ⟨Int.le_trans (Int.ediv_le_self _ m0) m1, Int.le_trans (Int.ediv_le_self _ (by omega)) hz2⟩
  unfold oN oD oE rN rD rE
  have hz0 : ¬ Z = 0 := by omega
  have hz1 : ¬ Z < 0 := by omega
  simp only [hz0, hz1, if_false, hF, if_true, and_self]
/-- what holds of X and Z holds of the number in lowest terms -/
theorem low_cmp {X Z A B g : Int} (hg : 0 < g) (hA : A * g = X) (hB : B * g = Z) (p q : Int) : (p * X < q * Z ↔ p * A < q * B) := by
  rw [← hA, ← hB, ← Int.mul_assoc, ← Int.mul_assoc]
  exact Int.mul_lt_mul_right hg
theorem low_eq {X Z A B g : Int} (hg : 0 < g) (hA : A * g = X) (hB : B * g = Z) (p q : Int) : (p * X = q * Z ↔ p * A = q * B) := by
  rw [← hA, ← hB, ← Int.mul_assoc, ← Int.mul_assoc]
  exact ⟨fun h => Int.eq_of_mul_eq_mul_right (by omega) h, fun h => by rw [h]⟩
end Go.Proofs.Ytehdkoillpebgaa
