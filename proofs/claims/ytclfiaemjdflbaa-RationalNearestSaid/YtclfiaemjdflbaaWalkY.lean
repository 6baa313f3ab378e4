/-
  Contracts of Add, Sub, Mul and Div, of package rational and of the reference, for all arguments.
  Conditions: the arguments are integers of their kinds.
-/
import Derived.Test.YtclfiaemjdflbaaWalkX
namespace Go.Proofs.Ytclfiaemjdflbaa
open Go.RowKit
set_option linter.unusedSimpArgs false
set_option linter.unusedVariables false

theorem quot_sign {x g : Int} (hg : 1 ≤ g) (hd : g ∣ x) : (x / g < 0 ↔ x < 0) ∧ (x / g = 0 ↔ x = 0) ∧ mg x / g = mg (x / g) := by
  have hm : mg x / g = mg (x / g) := by
    rcases mg_div hd with h | h
    · exact h
    · omega
  obtain ⟨k, rfl⟩ := hd
  rw [hm, Int.mul_ediv_cancel_left _ (by omega)]
  refine ⟨⟨fun h => Int.mul_neg_of_pos_of_neg (by omega) h, fun h => ?_⟩, ⟨fun h => by rw [h, Int.mul_zero], fun h => ?_⟩, rfl⟩
  · by_cases hk : k < 0
    · exact hk
    · have := Int.mul_nonneg (show 0 ≤ g by omega) (show 0 ≤ k by omega)
      omega
  · rcases Int.mul_eq_zero.1 h with h | h
    · omega
    · exact h

theorem rmul_valid (an ad bn bd : Int) (w : World) (hA : I64 an) (hB : I64 ad) (hC : I64 bn) (hD : I64 bd) (va : vB an ad = true) (vb : vB bn bd = true) :
    Calls Try.prog 26 #[.agg #[.int .i64 an, .int .i64 ad], .agg #[.int .i64 bn, .int .i64 bd]] w fun e w' =>
      e = .returned (.tuple #[.agg #[.int .i64 (rN (an * bn) (ad * bd)), .int .i64 (rD (an * bn) (ad * bd))], .int .i64 (rE (an * bn) (ad * bd))]) ∧ Gr w w' := by
  obtain ⟨a1, a3, a4⟩ := vB_inv va
  obtain ⟨b1, b3, b4⟩ := vB_inv vb
  have HA := fun w => rvalid_any an ad w hA hB
  have HB := fun w => rvalid_any bn bd w hC hD
  rw [va] at HA
  rw [vb] at HB
  have hA' := hA
  have hC' := hC
  obtain ⟨hA1, hA2⟩ := hA
  obtain ⟨hB1, hB2⟩ := hB
  obtain ⟨hC1, hC2⟩ := hC
  obtain ⟨hD1, hD2⟩ := hD
  obtain ⟨g, h, eg, eh, g1, g2, h1, h2, dg, dh, dg2, dh2, eG, eQ, eD⟩ := mul_parts a4 b4 a1 b1
  obtain ⟨r1, r2, r3, r4⟩ := red_vals eG eQ eD
  obtain ⟨s1, s2, s3⟩ := quot_sign g1 dg
  obtain ⟨t1, t2, t3⟩ := quot_sign h1 dh
  have qα := quot_in (n := an) g1 hA1 hA2
  have qγ := quot_in (n := bn) h1 hC1 hC2
  have qβ : 0 ≤ bd / g := Int.ediv_nonneg (by omega) (by omega)
  have qβ' : bd / g ≤ bd := Int.ediv_le_self _ (by omega)
  have qδ : 0 ≤ ad / h := Int.ediv_nonneg (by omega) (by omega)
  have qδ' : ad / h ≤ ad := Int.ediv_le_self _ (by omega)
  have F1 : Fit6 (an / g * (bn / h)) := fit6_mul _ _ (by omega) (by omega) (by omega) (by omega)
  have F3 : Fit6 (ad / h * (bd / g)) := fit6_mul _ _ (by omega) (by omega) (by omega) (by omega)
  have d0 : 0 ≤ ad / h * (bd / g) := Int.mul_nonneg qδ qβ
  have wn := wN_mul (an / g) (bn / h)
  rw [show decide (an / g < 0) = decide (an < 0) by rw [decide_eq_decide]; exact s1, show decide (bn / h < 0) = decide (bn < 0) by rw [decide_eq_decide]; exact t1] at wn
  have HT : ∀ w, Calls Try.prog 44 #[.int .u64 (mg an / g), .int .u64 (mg bn / h)] w fun e w' => e = .returned (.agg #[.int .u64 (wH (mg (an / g * (bn / h)))), .int .u64 (wL (mg (an / g * (bn / h))))]) ∧ Gr w w' := fun w => by
    rw [s3, t3, mg_mul]
    exact times_v _ _ w (mg_nonneg _) (mg_lt _ (by omega) (by omega)) (mg_nonneg _) (mg_lt _ (by omega) (by omega))
  obtain ⟨v, hv⟩ : ∃ v, an / g * (bn / h) = v := ⟨_, rfl⟩
  rw [hv] at HT F1 wn r1 r2
  have mv := mg_nonneg v
  have fv : Fit (mg v) := fit_mg F1.fit
  have vH0 := wH_nonneg (mg v)
  have vH1 := wH_lt fv
  have vL0 := wL_nonneg (mg v)
  have vL1 := wL_lt (mg v)
  have vW := wHL (mg v)
  rw [mg_pos mv] at vW
  have dH0 := wH_nonneg (ad / h * (bd / g))
  have dH1 := wH_lt F3.fit
  have dL0 := wL_nonneg (ad / h * (bd / g))
  have dL1 := wL_lt (ad / h * (bd / g))
  have dW := wHL (ad / h * (bd / g))
  rw [mg_pos d0] at dW
  have core := fun (RN RD RE : Int) => rmul_core an ad bn bd g h (wH (mg v)) (wL (mg v)) (wH (ad / h * (bd / g))) (wL (ad / h * (bd / g))) RN RD RE w a1 hB2 b1 hD2 hA' hC' g1 (by omega) h1 (by omega) vH0 vH1 vL0 vL1 dH0 dH1 dL0 dL1 HA HB
    (fun w => rgcd_g (mg an) bd g w eg (mg_nonneg an) (mg_lt an hA1 hA2) (by omega) (by omega)) (fun w => rgcd_g (mg bn) ad h w eh (mg_nonneg bn) (mg_lt bn hC1 hC2) (by omega) (by omega)) HT (fun w => times_v (ad / h) (bd / g) w (by omega) (by omega) (by omega) (by omega))
  rw [r2, r3, r4, r1]
  have mvv : mg v = if v < 0 then -v else v := rfl
  by_cases hh : 0 < wH (mg v)
  · have hn : ¬ (-9223372036854775807 ≤ v ∧ v ≤ 9223372036854775807 ∧ ad / h * (bd / g) ≤ 9223372036854775807) := by
      split at mvv <;> omega
    rw [decide_eq_false hn]
    simp only [if_false, Bool.false_eq_true]
    exact core 0 0 2 (.inl ⟨hh, rfl, rfl, rfl⟩)
  · have hh0 : wH (mg v) = 0 := by omega
    by_cases hd : 0 < wH (ad / h * (bd / g))
    · have hn : ¬ (-9223372036854775807 ≤ v ∧ v ≤ 9223372036854775807 ∧ ad / h * (bd / g) ≤ 9223372036854775807) := by omega
      rw [decide_eq_false hn]
      simp only [if_false, Bool.false_eq_true]
      exact core 0 0 2 (.inr (.inl ⟨hh0, hd, rfl, rfl, rfl⟩))
    · have hd0 : wH (ad / h * (bd / g)) = 0 := by omega
      have eL : wL (ad / h * (bd / g)) = ad / h * (bd / g) := by omega
      have eV : wL (mg v) = mg v := by omega
      have fin := core _ _ _ (.inr (.inr ⟨hh0, hd0, decide (v < 0), ?_, fun w => rmade_any (decide (v < 0)) (wL (mg v)) (wL (ad / h * (bd / g))) w vL0 vL1 dL0 dL1⟩))
      · rw [eL, eV] at fin
        have hiff : (-9223372036854775807 ≤ v ∧ v ≤ 9223372036854775807 ∧ ad / h * (bd / g) ≤ 9223372036854775807) ↔ (mg v ≤ 9223372036854775807 ∧ ad / h * (bd / g) ≤ 9223372036854775807) := by
          split at mvv <;> omega
        simp only [decide_eq_true_eq, hiff]
        simp only [decide_eq_true_eq] at fin
        have ev : (if v < 0 then -mg v else mg v) = v := by split at mvv <;> split <;> omega
        rw [ev] at fin
        exact fin
      · unfold wN at wn
        by_cases hz : v = 0
        · left
          refine ⟨by rw [hz]; rfl, decide_eq_false (by omega)⟩
        · right
          rw [decide_eq_false hz] at wn
          simp only [Bool.not_false, Bool.and_true] at wn
          exact ⟨by split at mvv <;> omega, wn⟩

/-- the result of an operation: X/Y in lowest terms where the arguments are in order -/
def arN (ok : Bool) (X Y : Int) : Int := if ok then rN X Y else 0
def arD (ok : Bool) (X Y : Int) : Int := if ok then rD X Y else 0
def arE (ok : Bool) (X Y : Int) : Int := if ok then rE X Y else 1
def arV (ok : Bool) (X Y : Int) : Value := .tuple #[.agg #[.int .i64 (arN ok X Y), .int .i64 (arD ok X Y)], .int .i64 (arE ok X Y)]
theorem arV_no (X Y : Int) : arV false X Y = .tuple #[.agg #[.int .i64 0, .int .i64 0], .int .i64 1] := rfl
theorem arV_yes (X Y : Int) : arV true X Y = .tuple #[.agg #[.int .i64 (rN X Y), .int .i64 (rD X Y)], .int .i64 (rE X Y)] := rfl

theorem add_any (an ad bn bd : Int) (w : World) (hA : I64 an) (hB : I64 ad) (hC : I64 bn) (hD : I64 bd) :
    Calls Try.prog 31 #[.agg #[.int .i64 an, .int .i64 ad], .agg #[.int .i64 bn, .int .i64 bd]] w fun e w' => e = .returned (arV (vB an ad && vB bn bd) (an*bd+bn*ad) (ad*bd)) ∧ Gr w w' := by
  have HA := fun w => valid_any an ad w hA hB
  have HB := fun w => valid_any bn bd w hC hD
  cases va : vB an ad
  · rw [va] at HA
    rw [Bool.false_and, arV_no]
    exact arith_no_add an ad bn bd false (vB bn bd) w (.inl rfl) HA HB
  · cases vb : vB bn bd
    · rw [va] at HA
      rw [vb] at HB
      rw [Bool.and_false, arV_no]
      exact arith_no_add an ad bn bd true false w (.inr ⟨rfl, rfl⟩) HA HB
    · rw [Bool.true_and, arV_yes]
      exact add_valid an ad bn bd w hA hB hC hD va vb
theorem mul_any (an ad bn bd : Int) (w : World) (hA : I64 an) (hB : I64 ad) (hC : I64 bn) (hD : I64 bd) :
    Calls Try.prog 34 #[.agg #[.int .i64 an, .int .i64 ad], .agg #[.int .i64 bn, .int .i64 bd]] w fun e w' => e = .returned (arV (vB an ad && vB bn bd) (an*bn) (ad*bd)) ∧ Gr w w' := by
  have HA := fun w => valid_any an ad w hA hB
  have HB := fun w => valid_any bn bd w hC hD
  cases va : vB an ad
  · rw [va] at HA
    rw [Bool.false_and, arV_no]
    exact arith_no_mul an ad bn bd false (vB bn bd) w (.inl rfl) HA HB
  · cases vb : vB bn bd
    · rw [va] at HA
      rw [vb] at HB
      rw [Bool.and_false, arV_no]
      exact arith_no_mul an ad bn bd true false w (.inr ⟨rfl, rfl⟩) HA HB
    · rw [Bool.true_and, arV_yes]
      exact mul_valid an ad bn bd w hA hB hC hD va vb
theorem radd_any (an ad bn bd : Int) (w : World) (hA : I64 an) (hB : I64 ad) (hC : I64 bn) (hD : I64 bd) :
    Calls Try.prog 28 #[.agg #[.int .i64 an, .int .i64 ad], .agg #[.int .i64 bn, .int .i64 bd]] w fun e w' => e = .returned (arV (vB an ad && vB bn bd) (an*bd+bn*ad) (ad*bd)) ∧ Gr w w' := by
  have HA := fun w => rvalid_any an ad w hA hB
  have HB := fun w => rvalid_any bn bd w hC hD
  cases va : vB an ad
  · rw [va] at HA
    rw [Bool.false_and, arV_no]
    exact rarith_no_add an ad bn bd false (vB bn bd) w (.inl rfl) HA HB
  · cases vb : vB bn bd
    · rw [va] at HA
      rw [vb] at HB
      rw [Bool.and_false, arV_no]
      exact rarith_no_add an ad bn bd true false w (.inr ⟨rfl, rfl⟩) HA HB
    · rw [Bool.true_and, arV_yes]
      exact radd_valid an ad bn bd w hA hB hC hD va vb
theorem rmul_any (an ad bn bd : Int) (w : World) (hA : I64 an) (hB : I64 ad) (hC : I64 bn) (hD : I64 bd) :
    Calls Try.prog 26 #[.agg #[.int .i64 an, .int .i64 ad], .agg #[.int .i64 bn, .int .i64 bd]] w fun e w' => e = .returned (arV (vB an ad && vB bn bd) (an*bn) (ad*bd)) ∧ Gr w w' := by
  have HA := fun w => rvalid_any an ad w hA hB
  have HB := fun w => rvalid_any bn bd w hC hD
  cases va : vB an ad
  · rw [va] at HA
    rw [Bool.false_and, arV_no]
    exact rarith_no_mul an ad bn bd false (vB bn bd) w (.inl rfl) HA HB
  · cases vb : vB bn bd
    · rw [va] at HA
      rw [vb] at HB
      rw [Bool.and_false, arV_no]
      exact rarith_no_mul an ad bn bd true false w (.inr ⟨rfl, rfl⟩) HA HB
    · rw [Bool.true_and, arV_yes]
      exact rmul_valid an ad bn bd w hA hB hC hD va vb
end Go.Proofs.Ytclfiaemjdflbaa
