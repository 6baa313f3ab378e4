/-
  Plain arithmetic of timecodes: ten minutes later; congruent frames have one label. No program in sight.
  Conditions: none.
-/
import Derived.Test.YtehdkoillpebgaaMath19D
namespace Go.Proofs.Ytehdkoillpebgaa
open Go.RowKit
set_option linter.unusedVariables false

theorem dayN_ten (b : Int) (d : Bool) : dayN b d % 144 = 0 ∧ dayN b d / 144 = 600 * b - 9 * drp b d := by
  unfold dayN; omega
theorem lm_cong {x y b : Int} {d : Bool} (h : x % dayN b d = y % dayN b d) : lm x b d = lm y b d ∧ lf x b d = lf y b d := by
  unfold lm lf; rw [h]; exact ⟨rfl, rfl⟩
theorem ten_later {n b : Int} {d : Bool} (ho : okB b d = true) : lm (n + dayN b d / 144) b d = (lm n b d + 10) % 1440 ∧ lf (n + dayN b d / 144) b d = lf n b d := by
  rw [(dayN_ten b d).2]
  unfold lm lf
  have hd := dayN_pos ho
  have r0 : 0 ≤ n % dayN b d := Int.emod_nonneg _ (by omega)
  have r1 : n % dayN b d < dayN b d := Int.emod_lt_of_pos _ hd.1
  have e : (n + (600 * b - 9 * drp b d)) % dayN b d = n % dayN b d + (600 * b - 9 * drp b d) ∨ (n + (600 * b - 9 * drp b d)) % dayN b d = n % dayN b d + (600 * b - 9 * drp b d) - dayN b d := by
    unfold dayN
    rcases okB_cases ho with ⟨rfl, rfl⟩ | ⟨rfl, rfl⟩ | ⟨rfl, rfl⟩ | ⟨rfl, rfl⟩ | ⟨rfl, rfl⟩ | ⟨rfl, rfl⟩ | ⟨rfl, rfl⟩ | ⟨rfl, rfl⟩ <;> simp only [drp, if_true, Bool.false_eq_true, if_false] <;> omega
  have x0 : 0 ≤ (n + (600 * b - 9 * drp b d)) % dayN b d := Int.emod_nonneg _ (by omega)
  have x1 : (n + (600 * b - 9 * drp b d)) % dayN b d < dayN b d := Int.emod_lt_of_pos _ hd.1
  generalize (n + (600 * b - 9 * drp b d)) % dayN b d = x at *
  generalize n % dayN b d = r at *
  unfold rMin rFrm dayN at *
  rcases okB_cases ho with ⟨rfl, rfl⟩ | ⟨rfl, rfl⟩ | ⟨rfl, rfl⟩ | ⟨rfl, rfl⟩ | ⟨rfl, rfl⟩ | ⟨rfl, rfl⟩ | ⟨rfl, rfl⟩ | ⟨rfl, rfl⟩ <;> simp only [drp, if_true, Bool.false_eq_true, if_false] at * <;> rcases e with e | e <;> subst e <;> split <;> split <;> omega
theorem tmod_cong (n : Int) {D : Int} (hD : 0 < D) : n.tmod D % D = n % D := by
  by_cases h : n < 0
  · obtain ⟨c1, c2⟩ := tmod_pos_cases hD h
    have h2 := Int.emod_nonneg n (show D ≠ 0 by omega)
    by_cases hz : n % D = 0
    · rw [c1 hz, hz]; simp
    · rw [c2 (by omega), Int.sub_emod_right, Int.emod_emod_of_dvd _ (Int.dvd_refl D)]
  · rw [Int.tmod_eq_emod_of_nonneg (by omega), Int.emod_emod_of_dvd _ (Int.dvd_refl D)]
theorem add_cong (v n : Int) {D : Int} (hD : 0 < D) : (v + n % D) % D = (v + n) % D ∧ (v + n.tmod D) % D = (v + n) % D := by
  refine ⟨by rw [Int.add_emod, Int.emod_emod_of_dvd _ (Int.dvd_refl D), ← Int.add_emod], ?_⟩
  rw [Int.add_emod, tmod_cong n hD, ← Int.add_emod]
end Go.Proofs.Ytehdkoillpebgaa
