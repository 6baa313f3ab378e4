
/-
  Plain arithmetic of timecodes: the number of a label. No program in sight.
  Conditions: none.
-/
import Derived.Test.YtgbiodnfpbhjiaaGreatDoorMath19B
namespace Go.Proofs.YtgbiodnfpbhjiaaGreatDoor.C19
open Go.RowKit
set_option linter.unusedVariables false

/-- x is from 0 to l-1 -/
def wi (x l : Int) : Bool := decide (0 ≤ x ∧ x < l)
def inN (h m s f b : Int) : Bool := wi h 24 && (wi m 60 && (wi s 60 && wi f b))
/-- the label is missing in its minute -/
def miss (h m s f b : Int) (d : Bool) : Bool := decide (s = 0 ∧ f < dm (60 * h + m) b d)
def numN (h m s f b : Int) (d : Bool) : Int := 60 * (b * (60 * h + m)) + (s * b + f) - drp b d * ((60 * h + m) - (60 * h + m) / 10)
def nmV (h m s f b : Int) (d : Bool) : Int := if okB b d && (inN h m s f b && !miss h m s f b d) then numN h m s f b d else 0
def nmE (h m s f b : Int) (d : Bool) : Int := if okB b d then (if inN h m s f b && !miss h m s f b d then 0 else 2) else 1
theorem inN_out {h m s f b : Int} (hi : inN h m s f b = true) : (0 ≤ h ∧ h < 24) ∧ (0 ≤ m ∧ m < 60) ∧ (0 ≤ s ∧ s < 60) ∧ (0 ≤ f ∧ f < b) := by
  unfold inN wi at hi; simpa using hi
theorem numN_st {h m s f b : Int} {d : Bool} (ho : okB b d = true) (hi : inN h m s f b = true) :
    numN h m s f b d = stN b d (60 * h + m).toNat + (s * b + f) - dm (60 * h + m) b d := by
  obtain ⟨⟨h1, h2⟩, ⟨h3, h4⟩, _, _⟩ := inN_out hi
  rw [stN_eq]
  have e : (((60 * h + m).toNat : Nat) : Int) = 60 * h + m := by omega
  rw [e]
  unfold numN dm
  rcases okB_cases ho with ⟨rfl, rfl⟩ | ⟨rfl, rfl⟩ | ⟨rfl, rfl⟩ | ⟨rfl, rfl⟩ | ⟨rfl, rfl⟩ | ⟨rfl, rfl⟩ | ⟨rfl, rfl⟩ | ⟨rfl, rfl⟩ <;> simp only [drp, if_true, Bool.false_eq_true, if_false] <;> split <;> omega
theorem sb_bounds {s f b : Int} (hb : 24 ≤ b ∧ b ≤ 60) (h1 : 0 ≤ s) (h2 : s < 60) (h3 : 0 ≤ f) (h4 : f < b) : 0 ≤ s * b + f ∧ s * b + f < 60 * b ∧ (0 < s → 24 ≤ s * b) := by
  have a1 : 0 ≤ s * b := Int.mul_nonneg h1 (by omega)
  have a2 : s * b ≤ 59 * b := Int.mul_le_mul_of_nonneg_right (by omega) (by omega)
  refine ⟨by omega, by omega, fun h => ?_⟩
  have : 1 * b ≤ s * b := Int.mul_le_mul_of_nonneg_right (by omega) (by omega)
  omega
theorem num_bounds {h m s f b : Int} {d : Bool} (ho : okB b d = true) (hi : inN h m s f b = true) (hm : miss h m s f b d = false) :
    0 ≤ numN h m s f b d ∧ numN h m s f b d < dayN b d := by
  have hb := okB_bounds ho
  obtain ⟨⟨h1, h2⟩, ⟨h3, h4⟩, ⟨h5, h6⟩, ⟨h7, h8⟩⟩ := inN_out hi
  have sb := sb_bounds ⟨hb.1, hb.2.1⟩ h5 h6 h7 h8
  rw [numN_st ho hi]
  have m1 := stN_mono b d ho 0 (60 * h + m).toNat
  have m2 := stN_mono b d ho ((60 * h + m).toNat + 1) (1440 - ((60 * h + m).toNat + 1))
  rw [show ((60 * h + m).toNat + 1) + (1440 - ((60 * h + m).toNat + 1)) = 1440 by omega, stN_day, stN] at m2
  rw [Nat.zero_add] at m1
  have e : (((60 * h + m).toNat : Nat) : Int) = 60 * h + m := by omega
  rw [e] at m2
  have db := dm_bounds (m := 60 * h + m) ho
  have hm' : ¬ (s = 0 ∧ f < dm (60 * h + m) b d) := by unfold miss at hm; simpa using hm
  have z : stN b d 0 = 0 := rfl
  rw [z] at m1
  generalize stN b d (60 * h + m).toNat = S at *
  generalize dm (60 * h + m) b d = δ at *
  by_cases hs : s = 0
  · subst hs; omega
  · have := sb.2.2 (by omega); omega
theorem num_label {h m s f b : Int} {d : Bool} (ho : okB b d = true) (hi : inN h m s f b = true) (hm : miss h m s f b d = false) :
    lm (numN h m s f b d) b d = 60 * h + m ∧ lf (numN h m s f b d) b d = s * b + f := by
  have nb := num_bounds ho hi hm
  have hb := okB_bounds ho
  obtain ⟨⟨h1, h2⟩, ⟨h3, h4⟩, ⟨h5, h6⟩, ⟨h7, h8⟩⟩ := inN_out hi
  have sb := sb_bounds ⟨hb.1, hb.2.1⟩ h5 h6 h7 h8
  unfold lm lf
  rw [Int.emod_eq_of_lt nb.1 nb.2]
  have hm' : ¬ (s = 0 ∧ f < dm (60 * h + m) b d) := by unfold miss at hm; simpa using hm
  have e : (((60 * h + m).toNat : Nat) : Int) = 60 * h + m := by omega
  have es := numN_st ho hi
  have ex : stN b d ((60 * h + m).toNat + 1) = stN b d (60 * h + m).toNat + 60 * b - dm (((60 * h + m).toNat : Nat) : Int) b d := rfl
  have key := r_unique (r := numN h m s f b d) (m := (60 * h + m).toNat) ho nb.1
  rw [ex, e] at key
  rw [es] at key nb ⊢
  have db := dm_bounds (m := 60 * h + m) ho
  generalize hS : stN b d (60 * h + m).toNat = S at *
  generalize dm (60 * h + m) b d = δ at *
  have hge : δ ≤ s * b + f := by
    by_cases hs : s = 0
    · subst hs; omega
    · have := sb.2.2 (by omega)
      omega
  obtain ⟨k1, k2⟩ := key (by omega) (by omega)
  exact ⟨k1.symm, by rw [← k2]; omega⟩
theorem num_label_miss {h m s f b : Int} {d : Bool} (ho : okB b d = true) (hi : inN h m s f b = true) (hm : miss h m s f b d = true) :
    lm (numN h m s f b d) b d = 60 * h + (m - 1) ∧ 1 ≤ m := by
  have hb := okB_bounds ho
  obtain ⟨⟨h1, h2⟩, ⟨h3, h4⟩, ⟨h5, h6⟩, ⟨h7, h8⟩⟩ := inN_out hi
  have hm' : s = 0 ∧ f < dm (60 * h + m) b d := by unfold miss at hm; simpa using hm
  obtain ⟨rfl, hf⟩ := hm'
  have db := dm_bounds (m := 60 * h + m) ho
  have h10 : (60 * h + m) % 10 ≠ 0 := by
    intro h0
    unfold dm at hf
    rw [if_pos h0] at hf
    omega
  have hm1 : 1 ≤ m := by omega
  refine ⟨?_, hm1⟩
  have e : (((60 * h + (m - 1)).toNat : Nat) : Int) = 60 * h + (m - 1) := by omega
  have en : (60 * h + m).toNat = (60 * h + (m - 1)).toNat + 1 := by omega
  have es := numN_st ho hi
  have ex : stN b d ((60 * h + (m - 1)).toNat + 1) = stN b d (60 * h + (m - 1)).toNat + 60 * b - dm (((60 * h + (m - 1)).toNat : Nat) : Int) b d := rfl
  have d1 := dm_bounds (m := 60 * h + (m - 1)) ho
  have m1 := stN_mono b d ho 0 (60 * h + (m - 1)).toNat
  have m2 := stN_mono b d ho ((60 * h + (m - 1)).toNat + 1) (1440 - ((60 * h + (m - 1)).toNat + 1))
  rw [show ((60 * h + (m - 1)).toNat + 1) + (1440 - ((60 * h + (m - 1)).toNat + 1)) = 1440 by omega, stN_day] at m2
  rw [Nat.zero_add, show stN b d 0 = 0 from rfl] at m1
  rw [en] at es
  have key := r_unique (r := numN h m 0 f b d) (m := (60 * h + (m - 1)).toNat) ho
  rw [e] at key
  unfold lm
  rw [ex] at es m2 key
  rw [e] at es m2 key
  rw [es] at key ⊢
  generalize stN b d (60 * h + (m - 1)).toNat = S at *
  generalize dm (60 * h + m) b d = δ at *
  generalize dm (60 * h + (m - 1)) b d = ε at *
  rw [Int.emod_eq_of_lt (by omega) (by omega)]
  exact (key (by omega) (by omega) (by omega)).1.symm
end Go.Proofs.YtgbiodnfpbhjiaaGreatDoor.C19
