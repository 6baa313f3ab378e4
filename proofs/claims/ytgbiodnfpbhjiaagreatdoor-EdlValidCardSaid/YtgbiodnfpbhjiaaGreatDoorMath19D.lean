
/-
  Plain arithmetic of timecodes: the number of a frame's label. No program in sight.
  Conditions: none.
-/
import Derived.Test.YtgbiodnfpbhjiaaGreatDoorMath19C
namespace Go.Proofs.YtgbiodnfpbhjiaaGreatDoor.C19
open Go.RowKit
set_option linter.unusedVariables false

theorem label_num {r b : Int} {d : Bool} (ho : okB b d = true) (h0 : 0 ≤ r) (h1 : r < dayN b d) :
    inN (rMin r b d / 60) (rMin r b d % 60) (rFrm r b d / b) (rFrm r b d % b) b = true ∧ miss (rMin r b d / 60) (rMin r b d % 60) (rFrm r b d / b) (rFrm r b d % b) b d = false ∧
    numN (rMin r b d / 60) (rMin r b d % 60) (rFrm r b d / b) (rFrm r b d % b) b d = r := by
  obtain ⟨l1, l2, l3, l4⟩ := r_bounds ho h0 h1
  have hb := okB_bounds ho
  have eM : 60 * (rMin r b d / 60) + rMin r b d % 60 = rMin r b d := by omega
  have f1 : 0 ≤ rFrm r b d / b := Int.ediv_nonneg l3 (by omega)
  have f2 : rFrm r b d / b < 60 := Int.ediv_lt_of_lt_mul (by omega) (by omega)
  have f3 : 0 ≤ rFrm r b d % b := Int.emod_nonneg _ (by omega)
  have f4 : rFrm r b d % b < b := Int.emod_lt_of_pos _ (by omega)
  have eF : rFrm r b d / b * b + rFrm r b d % b = rFrm r b d := by rw [Int.mul_comm]; exact Int.mul_ediv_add_emod _ _
  have key : dm (rMin r b d) b d ≤ rFrm r b d ∧ 60 * (b * rMin r b d) + rFrm r b d - drp b d * (rMin r b d - rMin r b d / 10) = r := by
    clear eM f1 f2 f3 f4 eF
    unfold rMin rFrm dayN dm at *
    rcases okB_cases ho with ⟨rfl, rfl⟩ | ⟨rfl, rfl⟩ | ⟨rfl, rfl⟩ | ⟨rfl, rfl⟩ | ⟨rfl, rfl⟩ | ⟨rfl, rfl⟩ | ⟨rfl, rfl⟩ | ⟨rfl, rfl⟩ <;> simp only [drp, if_true, Bool.false_eq_true, if_false] at * <;> split <;> (try split) <;> (try constructor) <;> omega
  refine ⟨?_, ?_, ?_⟩
  · unfold inN wi
    have : (0 ≤ rMin r b d / 60 ∧ rMin r b d / 60 < 24) ∧ (0 ≤ rMin r b d % 60 ∧ rMin r b d % 60 < 60) := by omega
    simp [this.1.1, this.1.2, this.2.1, this.2.2, f1, f2, f3, f4]
  · unfold miss
    rw [eM]
    refine decide_eq_false fun ⟨x, y⟩ => ?_
    rw [x, Int.zero_mul, Int.zero_add] at eF
    omega
  · unfold numN
    rw [eM, eF]
    exact key.2
/-- the rest of n, as the law tests it -/
theorem rest_law {n D : Int} (hD : 0 < D) : (n.tmod D - n % D).tmod D = 0 := by
  have h2 := Int.emod_nonneg n (show D ≠ 0 by omega)
  by_cases h : n < 0
  · obtain ⟨c1, c2⟩ := tmod_pos_cases hD h
    by_cases hz : n % D = 0
    · rw [c1 hz, hz]; simp
    · rw [c2 (by omega), show n % D - D - n % D = -D by omega, Int.neg_tmod, Int.tmod_self]; rfl
  · rw [Int.tmod_eq_emod_of_nonneg (a := n) (by omega), Int.sub_self, Int.zero_tmod]
theorem tmod_bounds {n D : Int} (hD : 0 < D) : -D < n.tmod D ∧ n.tmod D < D := by
  have h3 := Int.emod_lt_of_pos n hD
  have h2 := Int.emod_nonneg n (show D ≠ 0 by omega)
  by_cases h : n < 0
  · obtain ⟨c1, c2⟩ := tmod_pos_cases hD h
    by_cases hz : n % D = 0
    · have := c1 hz; omega
    · have := c2 (by omega); omega
  · have := Int.tmod_eq_emod_of_nonneg (a := n) (b := D) (by omega)
    omega
end Go.Proofs.YtgbiodnfpbhjiaaGreatDoor.C19
