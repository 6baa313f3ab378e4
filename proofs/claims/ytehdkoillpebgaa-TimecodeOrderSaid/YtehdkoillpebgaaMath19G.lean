/-
  Plain arithmetic of timecodes: the labels ascend. No program in sight.
  Conditions: none.
-/
import Derived.Test.YtehdkoillpebgaaMath19E
namespace Go.Proofs.Ytehdkoillpebgaa
open Go.RowKit
set_option linter.unusedVariables false

/-- the label of the next frame: the first one of the day, or a later one -/
theorem next_label {n b : Int} {d : Bool} (ho : okB b d = true) :
    (lm (n + 1) b d = 0 ∧ lf (n + 1) b d = 0 ∧ 0 ≤ lm n b d ∧ 0 ≤ lf n b d) ∨ ((lm (n + 1) b d ≠ 0 ∨ lf (n + 1) b d ≠ 0) ∧ 0 ≤ lm (n + 1) b d ∧ 0 ≤ lf (n + 1) b d ∧ 0 ≤ lf n b d ∧ (lm n b d < lm (n + 1) b d ∨ (lm n b d = lm (n + 1) b d ∧ lf n b d < lf (n + 1) b d))) := by
  have hd := dayN_pos ho
  have r0 : 0 ≤ n % dayN b d := Int.emod_nonneg _ (by omega)
  have r1 : n % dayN b d < dayN b d := Int.emod_lt_of_pos _ hd.1
  have e : (n % dayN b d + 1 = dayN b d ∧ (n + 1) % dayN b d = 0) ∨ (n % dayN b d + 1 < dayN b d ∧ (n + 1) % dayN b d = n % dayN b d + 1) := by
    unfold dayN
    rcases okB_cases ho with ⟨rfl, rfl⟩ | ⟨rfl, rfl⟩ | ⟨rfl, rfl⟩ | ⟨rfl, rfl⟩ | ⟨rfl, rfl⟩ | ⟨rfl, rfl⟩ | ⟨rfl, rfl⟩ | ⟨rfl, rfl⟩ <;> simp only [drp, if_true, Bool.false_eq_true, if_false] <;> omega
  obtain ⟨l1, l2, l3, l4⟩ := l_bounds (n := n) ho
  obtain ⟨k1, k2, k3, k4⟩ := l_bounds (n := n + 1) ho
  unfold lm lf at *
  rcases e with ⟨e1, e2⟩ | ⟨e1, e2⟩
  · left
    rw [e2]
    refine ⟨?_, ?_, l1, l3⟩
    all_goals
      simp only [rMin, rFrm]
      rcases okB_cases ho with ⟨rfl, rfl⟩ | ⟨rfl, rfl⟩ | ⟨rfl, rfl⟩ | ⟨rfl, rfl⟩ | ⟨rfl, rfl⟩ | ⟨rfl, rfl⟩ | ⟨rfl, rfl⟩ | ⟨rfl, rfl⟩ <;> simp [drp]
  · right
    rw [e2] at k1 k3 ⊢
    have hx : n % dayN b d < dayN b d := r1
    generalize n % dayN b d = r at *
    clear k2 k4 l2 l4 e2
    have key : rMin r b d < rMin (r + 1) b d ∨ (rMin r b d = rMin (r + 1) b d ∧ rFrm r b d < rFrm (r + 1) b d) := by
      clear k1 k3 l1 l3
      unfold rMin rFrm dayN at *
      rcases okB_cases ho with ⟨rfl, rfl⟩ | ⟨rfl, rfl⟩ | ⟨rfl, rfl⟩ | ⟨rfl, rfl⟩ | ⟨rfl, rfl⟩ | ⟨rfl, rfl⟩ | ⟨rfl, rfl⟩ | ⟨rfl, rfl⟩ <;> simp only [drp, if_true, Bool.false_eq_true, if_false] at * <;> split <;> split <;> omega
    refine ⟨?_, k1, k3, l3, key⟩
    rcases key with h | h
    · exact .inl (by omega)
    · exact .inr (by omega)
/-- in hours, minutes, seconds and frames -/
theorem lex_parts {M F M' F' b : Int} (hb : 0 < b) (h : M < M' ∨ (M = M' ∧ F < F')) :
    M / 60 < M' / 60 ∨ (M / 60 = M' / 60 ∧ (M % 60 < M' % 60 ∨ (M % 60 = M' % 60 ∧ (F / b < F' / b ∨ (F / b = F' / b ∧ F % b < F' % b))))) := by
  rcases h with h | ⟨rfl, h⟩
  · omega
  · have h1 := Int.mul_ediv_add_emod F b
    have h2 := Int.mul_ediv_add_emod F' b
    have h3 : F / b ≤ F' / b := Int.ediv_le_ediv hb (by omega)
    have h4 : F / b = F' / b → F % b < F' % b := fun e => by rw [e] at h1; omega
    omega
theorem zero_parts {M F b : Int} (hb : 0 < b) (hM : 0 ≤ M) (hF : 0 ≤ F) (h : M ≠ 0 ∨ F ≠ 0) : M / 60 ≠ 0 ∨ (M / 60 = 0 ∧ M % 60 ≠ 0) ∨ (M / 60 = 0 ∧ M % 60 = 0 ∧ F / b ≠ 0) ∨ (M / 60 = 0 ∧ M % 60 = 0 ∧ F / b = 0 ∧ F % b ≠ 0) := by
  have h2 := Int.mul_ediv_add_emod F b
  by_cases h0 : F / b = 0
  · rw [h0] at h2 ⊢; omega
  · omega
end Go.Proofs.Ytehdkoillpebgaa
