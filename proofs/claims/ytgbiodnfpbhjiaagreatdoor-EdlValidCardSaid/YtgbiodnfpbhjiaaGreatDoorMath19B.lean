
/-
  Plain arithmetic of timecodes: the base of a rate, the number of a label. No program in sight.
  Conditions: none.
-/
import Derived.Test.YtgbiodnfpbhjiaaGreatDoorMath19
namespace Go.Proofs.YtgbiodnfpbhjiaaGreatDoor.C19
open Go.RowKit
set_option linter.unusedVariables false

/-- the rate n/d is b or b*1000/1001 -/
def mt (n d b : Int) : Prop := (n = b ∧ d = 1) ∨ (n = b * 1000 ∧ d = 1001)
instance (n d b : Int) : Decidable (mt n d b) := by unfold mt; exact inferInstance
def bsV (n d : Int) : Int := if d = 1 ∧ isB n = true then n else if d = 1001 ∧ n % 1000 = 0 ∧ isB (n / 1000) = true then n / 1000 else 0
def bsE (n d : Int) : Int := if d = 1 ∧ isB n = true then 0 else if d = 1001 ∧ n % 1000 = 0 ∧ isB (n / 1000) = true then 0 else 1
theorem bs_match {n d b : Int} (hb : isB b = true) (h : mt n d b) : bsV n d = b ∧ bsE n d = 0 := by
  unfold bsV bsE
  rcases h with ⟨rfl, rfl⟩ | ⟨rfl, rfl⟩
  · rw [if_pos ⟨rfl, hb⟩, if_pos ⟨rfl, hb⟩]; exact ⟨rfl, rfl⟩
  · have e : b * 1000 / 1000 = b := by omega
    have h1 : ¬ ((1001 : Int) = 1 ∧ isB (b * 1000) = true) := fun x => absurd x.1 (by decide)
    have h2 : ((1001 : Int) = 1001 ∧ b * 1000 % 1000 = 0 ∧ isB (b * 1000 / 1000) = true) := ⟨rfl, by omega, by rw [e]; exact hb⟩
    rw [if_neg h1, if_neg h1, if_pos h2, if_pos h2, e]; exact ⟨rfl, rfl⟩
theorem bs_none {n d : Int} (h : ∀ b, isB b = true → ¬ mt n d b) : bsV n d = 0 ∧ bsE n d = 1 := by
  unfold bsV bsE
  have h1 : ¬ (d = 1 ∧ isB n = true) := fun x => h n x.2 (.inl ⟨rfl, x.1⟩)
  have h2 : ¬ (d = 1001 ∧ n % 1000 = 0 ∧ isB (n / 1000) = true) := fun x => h (n / 1000) x.2.2 (.inr ⟨by omega, x.1⟩)
  rw [if_neg h1, if_neg h1, if_neg h2, if_neg h2]; exact ⟨rfl, rfl⟩
theorem isB_cases {b : Int} (h : isB b = true) : b = 24 ∨ b = 25 ∨ b = 30 ∨ b = 48 ∨ b = 50 ∨ b = 60 := by unfold isB at h; simpa using h
end Go.Proofs.YtgbiodnfpbhjiaaGreatDoor.C19
