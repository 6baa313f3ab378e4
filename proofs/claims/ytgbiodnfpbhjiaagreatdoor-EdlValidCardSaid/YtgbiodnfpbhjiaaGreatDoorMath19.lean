
/-
  Plain arithmetic of timecodes: bases, days, minutes and their labels. No program in sight.
  Conditions: none.
-/
import Derived.Test.YtgbiodnfpbhjiaaGreatDoorKit
namespace Go.Proofs.YtgbiodnfpbhjiaaGreatDoor.C19
open Go.RowKit
set_option linter.unusedVariables false

def isB (b : Int) : Bool := decide (b = 24 ∨ b = 25 ∨ b = 30 ∨ b = 48 ∨ b = 50 ∨ b = 60)
def cdB (b : Int) : Bool := decide (b = 30 ∨ b = 60)
def okB (b : Int) (d : Bool) : Bool := isB b && (!d || cdB b)
/-- how many labels a minute lacks whose number is not divisible by ten -/
def drp (b : Int) (d : Bool) : Int := if d then b / 15 else 0
/-- how many labels minute m lacks -/
def dm (m b : Int) (d : Bool) : Int := if m % 10 = 0 then 0 else drp b d
/-- labels of a day -/
def dayN (b : Int) (d : Bool) : Int := 144 * (600 * b - 9 * drp b d)
/-- the labels before minute m -/
def stN (b : Int) (d : Bool) : Nat → Int
  | 0 => 0
  | m + 1 => stN b d m + 60 * b - dm m b d
theorem stN_eq (b : Int) (d : Bool) (m : Nat) : stN b d m = 60 * (b * m) - drp b d * ((m : Int) - ((m : Int) + 9) / 10) := by
  induction m with
  | zero => simp [stN]
  | succ m ih =>
    rw [stN, ih]
    unfold dm
    have e1 : b * ((m + 1 : Nat) : Int) = b * m + b := by rw [Int.natCast_add, Int.mul_add]; simp
    rw [e1]
    split
    · rename_i h
      have e2 : (((m + 1 : Nat) : Int) - (((m + 1 : Nat) : Int) + 9) / 10) = ((m : Int) - ((m : Int) + 9) / 10) := by omega
      rw [e2]; omega
    · rename_i h
      have e2 : (((m + 1 : Nat) : Int) - (((m + 1 : Nat) : Int) + 9) / 10) = ((m : Int) - ((m : Int) + 9) / 10) + 1 := by omega
      have e3 : drp b d * (((m : Int) - ((m : Int) + 9) / 10) + 1) = drp b d * ((m : Int) - ((m : Int) + 9) / 10) + drp b d := by rw [Int.mul_add (drp b d), Int.mul_one]
      rw [e2, e3]; omega
theorem okB_cases {b : Int} {d : Bool} (h : okB b d = true) :
    (b = 24 ∧ d = false) ∨ (b = 25 ∧ d = false) ∨ (b = 30 ∧ d = false) ∨ (b = 48 ∧ d = false) ∨ (b = 50 ∧ d = false) ∨ (b = 60 ∧ d = false) ∨ (b = 30 ∧ d = true) ∨ (b = 60 ∧ d = true) := by
  unfold okB isB cdB at h
  cases d <;> simp at h ⊢ <;> omega
theorem okB_bounds {b : Int} {d : Bool} (h : okB b d = true) : 24 ≤ b ∧ b ≤ 60 ∧ 0 ≤ drp b d ∧ drp b d ≤ 4 := by
  rcases okB_cases h with ⟨rfl, rfl⟩ | ⟨rfl, rfl⟩ | ⟨rfl, rfl⟩ | ⟨rfl, rfl⟩ | ⟨rfl, rfl⟩ | ⟨rfl, rfl⟩ | ⟨rfl, rfl⟩ | ⟨rfl, rfl⟩ <;> decide
theorem isB_bounds {b : Int} (h : isB b = true) : 24 ≤ b ∧ b ≤ 60 := by
  unfold isB at h; simp at h; omega
theorem dm_bounds {m b : Int} {d : Bool} (h : okB b d = true) : 0 ≤ dm m b d ∧ dm m b d ≤ 4 := by
  have := okB_bounds h
  unfold dm; split <;> omega

/-- the minute of the day of frame r of the day -/
def rMin (r b : Int) (d : Bool) : Int :=
  if r % (600 * b - 9 * drp b d) < 60 * b then r / (600 * b - 9 * drp b d) * 10
  else r / (600 * b - 9 * drp b d) * 10 + (1 + (r % (600 * b - 9 * drp b d) - 60 * b) / (60 * b - drp b d))
/-- the label's number in its minute -/
def rFrm (r b : Int) (d : Bool) : Int :=
  if r % (600 * b - 9 * drp b d) < 60 * b then r % (600 * b - 9 * drp b d)
  else drp b d + (r % (600 * b - 9 * drp b d) - 60 * b) % (60 * b - drp b d)
/-- of any frame number -/
def lm (n b : Int) (d : Bool) : Int := rMin (n % dayN b d) b d
def lf (n b : Int) (d : Bool) : Int := rFrm (n % dayN b d) b d
theorem dayN_pos {b : Int} {d : Bool} (h : okB b d = true) : 0 < dayN b d ∧ dayN b d ≤ 5184000 := by
  rcases okB_cases h with ⟨rfl, rfl⟩ | ⟨rfl, rfl⟩ | ⟨rfl, rfl⟩ | ⟨rfl, rfl⟩ | ⟨rfl, rfl⟩ | ⟨rfl, rfl⟩ | ⟨rfl, rfl⟩ | ⟨rfl, rfl⟩ <;> decide
theorem r_bounds {r b : Int} {d : Bool} (h : okB b d = true) (h0 : 0 ≤ r) (h1 : r < dayN b d) : 0 ≤ rMin r b d ∧ rMin r b d < 1440 ∧ 0 ≤ rFrm r b d ∧ rFrm r b d < 60 * b := by
  unfold rMin rFrm dayN at *
  rcases okB_cases h with ⟨rfl, rfl⟩ | ⟨rfl, rfl⟩ | ⟨rfl, rfl⟩ | ⟨rfl, rfl⟩ | ⟨rfl, rfl⟩ | ⟨rfl, rfl⟩ | ⟨rfl, rfl⟩ | ⟨rfl, rfl⟩ <;> simp only [drp, if_true, Bool.false_eq_true, if_false] at * <;> split <;> omega
theorem r_unique {r b : Int} {d : Bool} {m : Nat} (h : okB b d = true) (h0 : 0 ≤ r) (h1 : stN b d m ≤ r) (h2 : r < stN b d (m + 1)) : (m : Int) = rMin r b d ∧ r - stN b d m + dm m b d = rFrm r b d := by
  rw [stN_eq] at h2
  rw [stN_eq] at h1 ⊢
  unfold rMin rFrm dm
  have hm : (m : Int) = 10 * ((m : Int) / 10) + (m : Int) % 10 := by omega
  have hs : ((m + 1 : Nat) : Int) = m + 1 := by omega
  rw [hs] at h2
  generalize (m : Int) = M at *
  have hj0 : 0 ≤ M % 10 := by omega
  have hj1 : M % 10 < 10 := by omega
  generalize M / 10 = q at *
  generalize hj : M % 10 = j at *
  rcases okB_cases h with ⟨rfl, rfl⟩ | ⟨rfl, rfl⟩ | ⟨rfl, rfl⟩ | ⟨rfl, rfl⟩ | ⟨rfl, rfl⟩ | ⟨rfl, rfl⟩ | ⟨rfl, rfl⟩ | ⟨rfl, rfl⟩ <;> simp only [drp, if_true, Bool.false_eq_true, if_false] at *
  case inr.inr.inr.inr.inr.inr.inl | inr.inr.inr.inr.inr.inr.inr =>
    rcases (show j = 0 ∨ j = 1 ∨ j = 2 ∨ j = 3 ∨ j = 4 ∨ j = 5 ∨ j = 6 ∨ j = 7 ∨ j = 8 ∨ j = 9 by omega) with rfl | rfl | rfl | rfl | rfl | rfl | rfl | rfl | rfl | rfl <;> subst hm <;> split <;> (try split) <;> omega
  all_goals (split <;> (try split) <;> omega)
theorem stN_mono (b : Int) (d : Bool) (h : okB b d = true) (i k : Nat) : stN b d i ≤ stN b d (i + k) := by
  have hb := okB_bounds h
  induction k with
  | zero => exact Int.le_refl _
  | succ k ih =>
    have := dm_bounds (m := ((i + k : Nat) : Int)) h
    rw [← Nat.add_assoc, stN]
    omega
theorem stN_day (b : Int) (d : Bool) : stN b d 1440 = dayN b d := by
  rw [stN_eq]; unfold dayN; omega
theorem l_bounds {n b : Int} {d : Bool} (h : okB b d = true) : 0 ≤ lm n b d ∧ lm n b d < 1440 ∧ 0 ≤ lf n b d ∧ lf n b d < 60 * b := by
  have hd := dayN_pos h
  exact r_bounds h (Int.emod_nonneg _ (by omega)) (Int.emod_lt_of_pos _ hd.1)
theorem tmod_pos_cases {n d : Int} (hd : 0 < d) (h : n < 0) : (n % d = 0 → n.tmod d = 0) ∧ (0 < n % d → n.tmod d = n % d - d) := by
  have e : n.tmod d = -((-n) % d) := by
    have := Int.neg_tmod (-n) d
    rw [Int.neg_neg] at this
    rw [this, Int.tmod_eq_emod_of_nonneg (by omega)]
  have h1 := Int.mul_ediv_add_emod n d
  have h2 := Int.emod_nonneg n (show d ≠ 0 by omega)
  have h3 := Int.emod_lt_of_pos n hd
  rw [e]
  generalize n / d = q at *
  generalize n % d = r at *
  subst h1
  refine ⟨fun h0 => ?_, fun h0 => ?_⟩
  · subst h0
    rw [Int.add_zero, ← Int.mul_neg, Int.mul_emod_right]; rfl
  · rw [show -(d * q + r) = (d - r) + d * (-q - 1) by rw [Int.mul_sub, Int.mul_neg, Int.mul_one]; omega, Int.add_mul_emod_self_left, Int.emod_eq_of_lt (by omega) (by omega)]
    omega
end Go.Proofs.YtgbiodnfpbhjiaaGreatDoor.C19
