/-
  Plain arithmetic: fractions in lowest terms, their uniqueness, and the laws of a field. No program in sight.
  Conditions: none.
-/
import Derived.Test.YtclfiaemjdflbaaDoorMathH
namespace Go.Proofs.YtclfiaemjdflbaaDoor
open Go.RowKit
set_option linter.unusedVariables false

theorem coprime_cross {x y x' y' : Int} (h : gc x y = 1) (h' : gc x' y' = 1) (hy : 0 < y) (hy' : 0 < y') (e : x * y' = x' * y) : x = x' ∧ y = y' := by
  rw [gc_one_iff] at h h'
  have en : x.natAbs * y'.natAbs = x'.natAbs * y.natAbs := by rw [← Int.natAbs_mul, ← Int.natAbs_mul, e]
  have d1 : y.natAbs ∣ y'.natAbs := by
    have : y.natAbs ∣ x.natAbs * y'.natAbs := ⟨x'.natAbs, by rw [en, Nat.mul_comm]⟩
    exact (Nat.Coprime.dvd_of_dvd_mul_left h.symm this)
  have d2 : y'.natAbs ∣ y.natAbs := by
    have : y'.natAbs ∣ x'.natAbs * y.natAbs := ⟨x.natAbs, by rw [← en, Nat.mul_comm]⟩
    exact (Nat.Coprime.dvd_of_dvd_mul_left h'.symm this)
  have ey : y = y' := by
    have := Nat.dvd_antisymm d1 d2
    omega
  refine ⟨?_, ey⟩
  subst ey
  exact Int.eq_of_mul_eq_mul_right (by omega) e

/-- the quotients depend on the ratio alone -/
theorem red_ratio {X Y X' Y' : Int} (hY : 0 < Y) (hY' : 0 < Y') (e : X * Y' = X' * Y) : X / gc X Y = X' / gc X' Y' ∧ Y / gc X Y = Y' / gc X' Y' := by
  have g0 := gc_pos_right X Y hY
  have g0' := gc_pos_right X' Y' hY'
  have q := gc_quots g0
  have q' := gc_quots g0'
  have e1 := Int.mul_ediv_cancel' (gc_dvd_left X Y)
  have e2 := Int.mul_ediv_cancel' (gc_dvd_right X Y)
  have e1' := Int.mul_ediv_cancel' (gc_dvd_left X' Y')
  have e2' := Int.mul_ediv_cancel' (gc_dvd_right X' Y')
  generalize gc X Y = g at *
  generalize gc X' Y' = g' at *
  generalize X / g = x at *
  generalize Y / g = y at *
  generalize X' / g' = x' at *
  generalize Y' / g' = y' at *
  have y0 : 0 < y := by
    rcases Int.lt_or_le 0 y with h | h
    · exact h
    · have := Int.mul_le_mul_of_nonneg_left h (show 0 ≤ g by omega)
      omega
  have y0' : 0 < y' := by
    rcases Int.lt_or_le 0 y' with h | h
    · exact h
    · have := Int.mul_le_mul_of_nonneg_left h (show 0 ≤ g' by omega)
      omega
  refine coprime_cross q q' y0 y0' ?_
  have : g * g' * (x * y') = g * g' * (x' * y) := by grind
  exact Int.eq_of_mul_eq_mul_left (by have := Int.mul_pos g0 g0'; omega) this
theorem red_unique {X Y X' Y' : Int} (hY : 0 < Y) (hY' : 0 < Y') (e : X * Y' = X' * Y) : rF X Y = rF X' Y' ∧ rN X Y = rN X' Y' ∧ rD X Y = rD X' Y' ∧ rE X Y = rE X' Y' := by
  obtain ⟨h1, h2⟩ := red_ratio hY hY' e
  have hF : rF X Y = rF X' Y' := by unfold rF; rw [mg_quot, mg_quot, h1, h2]
  refine ⟨hF, ?_, ?_, ?_⟩
  · unfold rN; rw [hF, h1]
  · unfold rD; rw [hF, h2]
  · unfold rE; rw [hF]
theorem rE_zero {X Y : Int} : rE X Y = 0 ↔ rF X Y = true := by
  unfold rE
  cases rF X Y <;> simp
/-- a result without an error is a valid number of the same ratio -/
theorem red_spec {X Y : Int} (hY : 0 < Y) (hE : rE X Y = 0) : vB (rN X Y) (rD X Y) = true ∧ rN X Y * Y = X * rD X Y ∧ 0 < rD X Y ∧ rD X Y ≤ 9223372036854775807 ∧ -9223372036854775807 ≤ rN X Y ∧ rN X Y ≤ 9223372036854775807 := by
  have hF := rE_zero.1 hE
  have hF' := hF
  unfold rF at hF'
  rw [mg_quot] at hF'
  obtain ⟨b1, b2⟩ := of_decide_eq_true hF'
  have g0 := gc_pos_right X Y hY
  have q := gc_quots g0
  have e1 := Int.mul_ediv_cancel' (gc_dvd_left X Y)
  have e2 := Int.mul_ediv_cancel' (gc_dvd_right X Y)
  have eN : rN X Y = X / gc X Y := by unfold rN; rw [hF]; rfl
  have eD : rD X Y = Y / gc X Y := by unfold rD; rw [hF]; rfl
  rw [eN, eD]
  have m1 : mg (X / gc X Y) = if X / gc X Y < 0 then -(X / gc X Y) else X / gc X Y := rfl
  generalize gc X Y = g at *
  generalize X / g = x at *
  generalize Y / g = y at *
  have y0 : 0 < y := by
    rcases Int.lt_or_le 0 y with h | h
    · exact h
    · have := Int.mul_le_mul_of_nonneg_left h (show 0 ≤ g by omega)
      omega
  refine ⟨vB_true (by omega) (by split at m1 <;> omega) q, by grind, y0, b2, by split at m1 <;> omega, by split at m1 <;> omega⟩
/-- a valid number is its own lowest terms -/
theorem red_self {n d : Int} (h : vB n d = true) (hn : n ≤ 9223372036854775807) (hd : d ≤ 9223372036854775807) : rN n d = n ∧ rD n d = d ∧ rE n d = 0 := by
  obtain ⟨h1, h2, h3⟩ := vB_inv h
  have hF : rF n d = true := by
    unfold rF
    rw [h3, Int.ediv_one, Int.ediv_one]
    refine decide_eq_true ⟨?_, hd⟩
    unfold mg; split <;> omega
  unfold rN rD rE
  rw [hF, h3, Int.ediv_one, Int.ediv_one]
  exact ⟨rfl, rfl, rfl⟩
theorem red_to {X Y n d : Int} (hY : 0 < Y) (h : vB n d = true) (hn : n ≤ 9223372036854775807) (hd : d ≤ 9223372036854775807) (e : X * d = n * Y) : rN X Y = n ∧ rD X Y = d ∧ rE X Y = 0 := by
  obtain ⟨h1, h2, h3⟩ := vB_inv h
  obtain ⟨_, a, b, c⟩ := red_unique (X' := n) (Y' := d) hY (by omega) e
  rw [a, b, c]
  exact red_self h hn hd
/-- whatever the result: integers of their kind -/
theorem red_i64 {X Y : Int} (hY : 0 < Y) : (-9223372036854775808 ≤ rN X Y ∧ rN X Y ≤ 9223372036854775807) ∧ (-9223372036854775808 ≤ rD X Y ∧ rD X Y ≤ 9223372036854775807) := by
  by_cases h : rE X Y = 0
  · obtain ⟨_, _, a, b, c, d⟩ := red_spec hY h
    exact ⟨⟨by omega, by omega⟩, by omega, by omega⟩
  · have hF : rF X Y = false := by
      cases hh : rF X Y
      · rfl
      · exact absurd (rE_zero.2 hh) h
    unfold rN rD
    rw [hF]
    simp

section
variable {an ad bn bd cn cd : Int}
theorem mul_pos2 {a b : Int} (h : 0 < a) (h' : 0 < b) : 0 < a * b := Int.mul_pos h h'
theorem add_comm_ratio (ha : 0 < ad) (hb : 0 < bd) : (an * bd + bn * ad) * (bd * ad) = (bn * ad + an * bd) * (ad * bd) := by grind
theorem mul_comm_ratio : (an * bn) * (bd * ad) = (bn * an) * (ad * bd) := by grind
theorem add_assoc_ratio {p q r s : Int} (h1 : p * (ad * bd) = (an * bd + bn * ad) * q) (h2 : r * (bd * cd) = (bn * cd + cn * bd) * s) (hb : 0 < bd) (ha : 0 < ad) (hc : 0 < cd) :
    (p * cd + cn * q) * (ad * s) = (an * s + r * ad) * (q * cd) := by
  have : bd * ((p * cd + cn * q) * (ad * s)) = bd * ((an * s + r * ad) * (q * cd)) := by grind
  exact Int.eq_of_mul_eq_mul_left (by omega) this
theorem sub_back_ratio {p q : Int} (h1 : p * (ad * bd) = (an * bd + bn * ad) * q) (hb : 0 < bd) : (p * bd + -bn * q) * ad = an * (q * bd) := by
  have : bd * ((p * bd + -bn * q) * ad) = bd * (an * (q * bd)) := by grind
  exact Int.eq_of_mul_eq_mul_left (by omega) this
theorem div_back_ratio {p q m d : Int} (h1 : p * (ad * bd) = (an * bn) * q) (hd : bd ≠ 0) (hs : (m = bd ∧ d = bn) ∨ (m = -bd ∧ d = -bn)) : (p * m) * ad = an * (q * d) := by
  rcases hs with ⟨rfl, rfl⟩ | ⟨rfl, rfl⟩
  · grind
  · grind
theorem distr_ratio {p q r s u v x y : Int} (h1 : p * (ad * bd) = (an * bd + bn * ad) * q) (h2 : r * (ad * cd) = (an * cn) * s) (h3 : u * (bd * cd) = (bn * cn) * v) (ha : 0 < ad) (hb : 0 < bd) (hc : 0 < cd) :
    (p * cn) * (s * v) = (r * v + u * s) * (q * cd) := by
  have : (ad * bd * cd) * ((p * cn) * (s * v)) = (ad * bd * cd) * ((r * v + u * s) * (q * cd)) := by grind
  exact Int.eq_of_mul_eq_mul_left (by have := Int.mul_pos (Int.mul_pos ha hb) hc; omega) this
end
end Go.Proofs.YtclfiaemjdflbaaDoor
