/-
  Contracts of Add, Mul, Sub and Div of package rational: the exact result in lowest terms, where it is not too large.
  Conditions: the arguments are integers of their kinds.
-/
import Derived.Test.YtclfiaemjdflbaaDoorWalkS
namespace Go.Proofs.YtclfiaemjdflbaaDoor
open Go.RowKit
set_option linter.unusedSimpArgs false
set_option linter.unusedVariables false

/-- the reduced fraction, out of its parts -/
theorem red_vals {X Y G q D : Int} (hG : gc X Y = G) (hq : X / G = q) (hD : Y / G = D) :
    rF X Y = decide (-9223372036854775807 ≤ q ∧ q ≤ 9223372036854775807 ∧ D ≤ 9223372036854775807) ∧ rN X Y = (if rF X Y then q else 0) ∧ rD X Y = (if rF X Y then D else 0) ∧ rE X Y = (if rF X Y then 0 else 2) := by
  have e : mg X / gc X Y = mg q := by rw [mg_quot, hG, hq]
  refine ⟨?_, by unfold rN; rw [hG, hq], by unfold rD; rw [hG, hD], rfl⟩
  unfold rF
  rw [e, hG, hD, decide_eq_decide]
  unfold mg
  split <;> omega

/-- a triple: numerator, denominator, error -/
def tri (a b c : Int) : Value := .tuple #[.agg #[.int .i64 a, .int .i64 b], .int .i64 c]

theorem add_valid (an ad bn bd : Int) (w : World) (hA : I64 an) (hB : I64 ad) (hC : I64 bn) (hD : I64 bd) (va : vB an ad = true) (vb : vB bn bd = true) :
    Calls Tryd.prog 25 #[.agg #[.int .i64 an, .int .i64 ad], .agg #[.int .i64 bn, .int .i64 bd]] w fun e w' =>
      e = .returned (.tuple #[.agg #[.int .i64 (rN (an * bd + bn * ad) (ad * bd)), .int .i64 (rD (an * bd + bn * ad) (ad * bd))], .int .i64 (rE (an * bd + bn * ad) (ad * bd))]) ∧ Gr w w' := by
  obtain ⟨a1, a3, a4⟩ := vB_inv va
  obtain ⟨b1, b3, b4⟩ := vB_inv vb
  have HA := fun w => valid_any an ad w hA hB
  have HB := fun w => valid_any bn bd w hC hD
  rw [va] at HA
  rw [vb] at HB
  obtain ⟨hA1, hA2⟩ := hA
  obtain ⟨hB1, hB2⟩ := hB
  obtain ⟨hC1, hC2⟩ := hC
  obtain ⟨hD1, hD2⟩ := hD
  obtain ⟨g, h, S, eg, g1, g2, g3, eS, eh, h1, h2, eX, eG, eQ, eD, eM⟩ := add_parts a4 b4 a1 b1
  obtain ⟨r1, r2, r3, r4⟩ := red_vals eG eQ eD
  have qα : 0 ≤ ad / g := Int.ediv_nonneg (by omega) (by omega)
  have qα' : ad / g ≤ ad := Int.ediv_le_self _ (by omega)
  have qβ : 0 ≤ bd / g := Int.ediv_nonneg (by omega) (by omega)
  have qβ' : bd / g ≤ bd := Int.ediv_le_self _ (by omega)
  have qγ : 0 ≤ bd / h := Int.ediv_nonneg (by omega) (by omega)
  have qγ' : bd / h ≤ bd := Int.ediv_le_self _ (by omega)
  have F1 : Fit6 (an * (bd / g)) := fit6_mul _ _ (by omega) (by omega) (by omega) (by omega)
  have F2 : Fit6 (bn * (ad / g)) := fit6_mul _ _ (by omega) (by omega) (by omega) (by omega)
  have F3 : Fit6 (ad / g * (bd / h)) := fit6_mul _ _ (by omega) (by omega) (by omega) (by omega)
  have FS := F1.plus F2
  rw [eS] at FS
  have HS := fun w => wplus_any (an * (bd / g)) (bn * (ad / g)) w F1 F2
  rw [eS] at HS
  have m0 : 0 ≤ mg S % g := Int.emod_nonneg _ (by omega)
  have m1 : mg S % g < g := Int.emod_lt_of_pos _ (by omega)
  have HG : ∀ w, Calls Tryd.prog 33 #[.int .u64 ad, .int .u64 bd] w fun e w' => e = .returned (.int .u64 g) ∧ Gr w w' := fun w => by
    have := gcd_any ad bd w (by omega) (by omega) (by omega) (by omega)
    rw [eg] at this
    exact this.mono fun _ _ ⟨x, y⟩ => ⟨x, Gr.of_drewN y⟩
  have HG2 : ∀ w, Calls Tryd.prog 33 #[.int .u64 (mg S % g), .int .u64 g] w fun e w' => e = .returned (.int .u64 h) ∧ Gr w w' := fun w => by
    have := gcd_any (mg S % g) g w m0 (by omega) (by omega) (by omega)
    rw [eh] at this
    exact this.mono fun _ _ ⟨x, y⟩ => ⟨x, Gr.of_drewN y⟩
  have d0 : 0 ≤ ad / g * (bd / h) := Int.mul_nonneg qα qγ
  rw [r2, r3, r4, r1]
  cases hP : (decide (-9223372036854775808 ≤ S / h ∧ S / h ≤ 9223372036854775807))
  · have hn : ¬ (-9223372036854775807 ≤ S / h ∧ S / h ≤ 9223372036854775807 ∧ ad / g * (bd / h) ≤ 9223372036854775807) := by
      have := of_decide_eq_false hP
      omega
    have HD := fun w => divide_any S h w FS h1 (by omega) false hP
    simp only [if_false, Bool.false_eq_true] at HD
    rw [decide_eq_false hn]
    simp only [if_false, Bool.false_eq_true]
    exact add_core_no an ad bn bd g (ad / g) (bd / g) (bd / h) S (mg S % g) h 0 0 0 0 0 0 w (by omega) (by omega) (by omega) (by omega) (by omega) (by omega) (by omega) (by omega) rfl rfl rfl HA HB HG
      (fun w => product_any an (bd / g) w (by omega) (by omega) (by omega) (by omega)) (fun w => product_any bn (ad / g) w (by omega) (by omega) (by omega) (by omega)) HS (fun w => modulo_any S g w FS (by omega) (by omega)) HG2 HD
  · have hq := of_decide_eq_true hP
    have HD := fun w => divide_any S h w FS h1 (by omega) true hP
    simp only [if_true] at HD
    have HF := fun w => fraction_any (S / h) (ad / g * (bd / h)) w hq d0 F3.fit
    have := add_core_yes an ad bn bd g (ad / g) (bd / g) (bd / h) S (mg S % g) h (S / h) (S % h) (ad / g * (bd / h)) _ _ _ w (by omega) (by omega) (by omega) (by omega) (by omega) (by omega) (by omega) (by omega) rfl rfl rfl HA HB HG
      (fun w => product_any an (bd / g) w (by omega) (by omega) (by omega) (by omega)) (fun w => product_any bn (ad / g) w (by omega) (by omega) (by omega) (by omega)) HS (fun w => modulo_any S g w FS (by omega) (by omega)) HG2 HD
      (fun w => product_any (ad / g) (bd / h) w (by omega) (by omega) (by omega) (by omega)) HF
    have hb : (-9223372036854775807 ≤ S / h ∧ S / h ≤ 9223372036854775807 ∧ ad / g * (bd / h) ≤ 9223372036854775807) ↔ (-9223372036854775807 ≤ S / h ∧ ad / g * (bd / h) ≤ 9223372036854775807) := by omega
    simp only [decide_eq_true_eq, hb]
    exact this

end Go.Proofs.YtclfiaemjdflbaaDoor
