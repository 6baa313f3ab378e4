/-
  Contracts of Add and Mul of the reference: the exact result in lowest terms, where it is not too large.
  Conditions: the arguments are integers of their kinds.
-/
import Derived.Test.YtclfiaemjdflbaaWalkU
import Derived.Test.YtclfiaemjdflbaaWalkV
import Derived.Test.YtclfiaemjdflbaaWalkW
import Derived.Test.YtclfiaemjdflbaaWalkQ
namespace Go.Proofs.Ytclfiaemjdflbaa
open Go.RowKit
set_option linter.unusedSimpArgs false
set_option linter.unusedVariables false

theorem rmade_any (neg : Bool) (n d : Int) (w : World) (n1 : 0 ≤ n) (n2 : n < 18446744073709551616) (d1 : 0 ≤ d) (d2 : d < 18446744073709551616) :
    Calls Try.prog 40 #[.bool neg, .int .u64 n, .int .u64 d] w fun e w' => e = .returned (.tuple #[.agg #[.int .i64 (if n ≤ 9223372036854775807 ∧ d ≤ 9223372036854775807 then (if neg then -n else n) else 0), .int .i64 (if n ≤ 9223372036854775807 ∧ d ≤ 9223372036854775807 then d else 0)], .int .i64 (if n ≤ 9223372036854775807 ∧ d ≤ 9223372036854775807 then 0 else 2)]) ∧ Gr w w' := by
  cases neg
  · exact made_pos n d w n1 n2 d1 d2
  · exact made_neg n d w n1 n2 d1 d2
theorem times_v (a b : Int) (w : World) (a1 : 0 ≤ a) (a2 : a < 18446744073709551616) (b1 : 0 ≤ b) (b2 : b < 18446744073709551616) :
    Calls Try.prog 44 #[.int .u64 a, .int .u64 b] w fun e w' => e = .returned (.agg #[.int .u64 (wH (a * b)), .int .u64 (wL (a * b))]) ∧ Gr w w' := by
  have := times_any a b w a1 a2 b1 b2
  unfold wH wL
  rw [mg_pos (Int.mul_nonneg a1 b1)]
  exact this
theorem rgcd_g (x y g : Int) (w : World) (h : gc x y = g) (hx : 0 ≤ x) (hx2 : x < 18446744073709551616) (hy : 0 ≤ y) (hy2 : y < 18446744073709551616) :
    Calls Try.prog 38 #[.int .u64 x, .int .u64 y] w fun e w' => e = .returned (.int .u64 g) ∧ Gr w w' := by
  have := rgcd_any x y w hx hx2 hy hy2
  rw [h] at this
  exact this.mono fun _ _ ⟨x, y⟩ => ⟨x, Gr.of_drewN y⟩
theorem wz {v : Int} (h : 0 ≤ v) : (wH v = 0 ∧ wL v = 0 ∧ v = 0) ∨ ((wH v ≠ 0 ∨ (wH v = 0 ∧ wL v ≠ 0)) ∧ v ≠ 0) := by
  have := wHL v
  rw [mg_pos h] at this
  have := wL_nonneg v
  have := wH_nonneg v
  omega
theorem exact_quot {S h : Int} (h1 : 1 ≤ h) (hm : mg S % h = 0) : S / h = if S < 0 then -(mg S / h) else mg S / h := by
  by_cases hs : S < 0
  · rw [if_pos hs]
    rw [mg_neg hs] at hm ⊢
    obtain ⟨k, hk⟩ := Int.dvd_of_emod_eq_zero hm
    have hk' : S = h * (-k) := by rw [Int.mul_neg]; omega
    rw [hk, hk', Int.mul_ediv_cancel_left _ (by omega), Int.mul_ediv_cancel_left _ (by omega)]
  · rw [if_neg hs, mg_pos (by omega)]

theorem sum_parts (an bn α β S : Int) (hα : 0 < α) (hβ : 0 < β) (eS : an * β + bn * α = S) :
    ((an < 0 ∧ bn < 0) ∧ mg S = mg an * β + mg bn * α ∧ S < 0) ∨ ((0 ≤ an ∧ 0 ≤ bn) ∧ mg S = mg an * β + mg bn * α ∧ 0 ≤ S) ∨
    (((an < 0 ∧ 0 ≤ bn) ∨ (0 ≤ an ∧ bn < 0)) ∧ mg an * β < mg bn * α ∧ mg S = mg bn * α - mg an * β ∧ decide (S < 0) = decide (bn < 0)) ∨
    (((an < 0 ∧ 0 ≤ bn) ∨ (0 ≤ an ∧ bn < 0)) ∧ ¬ mg an * β < mg bn * α ∧ mg S = mg an * β - mg bn * α ∧ (S ≠ 0 → decide (S < 0) = decide (an < 0))) := by
  have p1 : ∀ x : Int, 0 ≤ x → 0 ≤ x * β := fun x h => Int.mul_nonneg h (by omega)
  have p2 : ∀ x : Int, 0 ≤ x → 0 ≤ x * α := fun x h => Int.mul_nonneg h (by omega)
  have s1 : ∀ x : Int, 0 < x → 0 < x * β := fun x h => Int.mul_pos h (by omega)
  have s2 : ∀ x : Int, 0 < x → 0 < x * α := fun x h => Int.mul_pos h (by omega)
  have n1 : ∀ x : Int, -x * β = -(x * β) := fun x => Int.neg_mul x β
  have n2 : ∀ x : Int, -x * α = -(x * α) := fun x => Int.neg_mul x α
  rcases (show (an < 0 ∧ bn < 0) ∨ (an < 0 ∧ 0 ≤ bn) ∨ (0 ≤ an ∧ bn < 0) ∨ (0 ≤ an ∧ 0 ≤ bn) by omega) with ⟨sa, sb⟩ | ⟨sa, sb⟩ | ⟨sa, sb⟩ | ⟨sa, sb⟩
  · have a := s1 (-an) (by omega)
    have b := s2 (-bn) (by omega)
    rw [n1] at a
    rw [n2] at b
    refine .inl ⟨⟨sa, sb⟩, ?_, by omega⟩
    rw [mg_neg sa, mg_neg sb, n1, n2, mg_neg (by omega)]
    omega
  · have a := s1 (-an) (by omega)
    have b := p2 bn (by omega)
    rw [n1] at a
    rw [mg_neg sa, mg_pos sb, n1]
    by_cases hl : -(an * β) < bn * α
    · refine .inr (.inr (.inl ⟨.inl ⟨sa, sb⟩, hl, by rw [mg_pos (by omega)]; omega, ?_⟩))
      rw [decide_eq_decide]; omega
    · refine .inr (.inr (.inr ⟨.inl ⟨sa, sb⟩, hl, ?_, fun hz => by rw [decide_eq_decide]; omega⟩))
      unfold mg; split <;> omega
  · have a := p1 an (by omega)
    have b := s2 (-bn) (by omega)
    rw [n2] at b
    rw [mg_pos sa, mg_neg sb, n2]
    by_cases hl : an * β < -(bn * α)
    · refine .inr (.inr (.inl ⟨.inr ⟨sa, sb⟩, hl, by rw [mg_neg (by omega)]; omega, ?_⟩))
      rw [decide_eq_decide]; omega
    · refine .inr (.inr (.inr ⟨.inr ⟨sa, sb⟩, hl, ?_, fun hz => by rw [decide_eq_decide]; omega⟩))
      unfold mg; split <;> omega
  · have a := p1 an (by omega)
    have b := p2 bn (by omega)
    refine .inr (.inl ⟨⟨sa, sb⟩, ?_, by omega⟩)
    rw [mg_pos sa, mg_pos sb, mg_pos (by omega)]
    omega

theorem radd_valid (an ad bn bd : Int) (w : World) (hA : I64 an) (hB : I64 ad) (hC : I64 bn) (hD : I64 bd) (va : vB an ad = true) (vb : vB bn bd = true) :
    Calls Try.prog 28 #[.agg #[.int .i64 an, .int .i64 ad], .agg #[.int .i64 bn, .int .i64 bd]] w fun e w' =>
      e = .returned (.tuple #[.agg #[.int .i64 (rN (an * bd + bn * ad) (ad * bd)), .int .i64 (rD (an * bd + bn * ad) (ad * bd))], .int .i64 (rE (an * bd + bn * ad) (ad * bd))]) ∧ Gr w w' := by
  obtain ⟨a1, a3, a4⟩ := vB_inv va
  obtain ⟨b1, b3, b4⟩ := vB_inv vb
  have HA := fun w => rvalid_any an ad w hA hB
  have HB := fun w => rvalid_any bn bd w hC hD
  rw [va] at HA
  rw [vb] at HB
  have hA0 := hA
  have hC0 := hC
  obtain ⟨hA1, hA2⟩ := hA
  obtain ⟨hB1, hB2⟩ := hB
  obtain ⟨hC1, hC2⟩ := hC
  obtain ⟨hD1, hD2⟩ := hD
  obtain ⟨g, h, S, eg, g1, g2, g3, eS, eh, h1, h2, eX, eG, eQ, eD, eM⟩ := add_parts a4 b4 a1 b1
  obtain ⟨r1, r2, r3, r4⟩ := red_vals eG eQ eD
  have hga : g ∣ ad := by rw [← eg]; exact gc_dvd_left ad bd
  have hgb : g ∣ bd := by rw [← eg]; exact gc_dvd_right ad bd
  have qα : 0 < ad / g := Int.ediv_pos_of_pos_of_dvd (by omega) (by omega) hga
  have qα' : ad / g ≤ ad := Int.ediv_le_self _ (by omega)
  have qβ : 0 < bd / g := Int.ediv_pos_of_pos_of_dvd (by omega) (by omega) hgb
  have qβ' : bd / g ≤ bd := Int.ediv_le_self _ (by omega)
  have qγ : 0 ≤ bd / h := Int.ediv_nonneg (by omega) (by omega)
  have qγ' : bd / h ≤ bd := Int.ediv_le_self _ (by omega)
  have F1 : Fit6 (an * (bd / g)) := fit6_mul _ _ (by omega) (by omega) (by omega) (by omega)
  have F2 : Fit6 (bn * (ad / g)) := fit6_mul _ _ (by omega) (by omega) (by omega) (by omega)
  have F3 : Fit6 (ad / g * (bd / h)) := fit6_mul _ _ (by omega) (by omega) (by omega) (by omega)
  have ma := mg_nonneg an
  have mb := mg_nonneg bn
  have ma2 := mg_lt an hA1 hA2
  have mb2 := mg_lt bn hC1 hC2
  have m0 : 0 ≤ mg S % g := Int.emod_nonneg _ (by omega)
  have m1 : mg S % g < g := Int.emod_lt_of_pos _ (by omega)
  have x0 : 0 ≤ mg an * (bd / g) := Int.mul_nonneg ma (by omega)
  have y0 : 0 ≤ mg bn * (ad / g) := Int.mul_nonneg mb (by omega)
  have ex : mg (an * (bd / g)) = mg an * (bd / g) := by rw [mg_mul, mg_pos (show 0 ≤ bd / g by omega)]
  have ey : mg (bn * (ad / g)) = mg bn * (ad / g) := by rw [mg_mul, mg_pos (show 0 ≤ ad / g by omega)]
  have fx : mg an * (bd / g) ≤ 85070591730234615865843651857942052864 := by rw [← ex]; exact F1
  have fy : mg bn * (ad / g) ≤ 85070591730234615865843651857942052864 := by rw [← ey]; exact F2
  have sp := sum_parts an bn (ad / g) (bd / g) S qα qβ eS
  have fxy : Fit (mg an * (bd / g) + mg bn * (ad / g)) := by unfold Fit; rw [mg_pos (by omega)]; omega
  have mS0 := mg_nonneg S
  have mSb : mg S ≤ mg an * (bd / g) + mg bn * (ad / g) := by rcases sp with ⟨_, e, _⟩ | ⟨_, e, _⟩ | ⟨_, _, e, _⟩ | ⟨_, _, e, _⟩ <;> omega
  have fS : Fit (mg S) := by unfold Fit; rw [mg_pos mS0]; omega
  have d0 : 0 ≤ ad / g * (bd / h) := Int.mul_nonneg (by omega) qγ
  have hr : ∀ w, Calls Try.prog 52 #[.agg #[.int .u64 (wH (mg S)), .int .u64 (wL (mg S))], .int .u64 g] w fun e w' => e = .returned (.int .u64 (mg S % g)) ∧ Gr w w' := fun w => rest_any (mg S) g w mS0 fS g1 (by omega)
  -- the sum
  have hsum : ∃ NEG : Bool, (S ≠ 0 → NEG = decide (S < 0)) ∧ ((((an < 0 ∧ bn < 0) ∨ (0 ≤ an ∧ 0 ≤ bn)) ∧ wH (mg an * (bd / g) + mg bn * (ad / g)) = wH (mg S) ∧ wL (mg an * (bd / g) + mg bn * (ad / g)) = wL (mg S) ∧ NEG = decide (an < 0)) ∨
      (((an < 0 ∧ 0 ≤ bn) ∨ (0 ≤ an ∧ bn < 0)) ∧ (∀ w, Calls Try.prog 50 #[.agg #[.int .u64 (wH (mg an * (bd / g))), .int .u64 (wL (mg an * (bd / g)))], .agg #[.int .u64 (wH (mg bn * (ad / g))), .int .u64 (wL (mg bn * (ad / g)))]] w fun e w' => e = .returned (.bool true) ∧ Gr w w') ∧ (∀ w, Calls Try.prog 51 #[.agg #[.int .u64 (wH (mg bn * (ad / g))), .int .u64 (wL (mg bn * (ad / g)))], .agg #[.int .u64 (wH (mg an * (bd / g))), .int .u64 (wL (mg an * (bd / g)))]] w fun e w' => e = .returned (.agg #[.int .u64 (wH (mg S)), .int .u64 (wL (mg S))]) ∧ Gr w w') ∧ NEG = decide (bn < 0)) ∨
      (((an < 0 ∧ 0 ≤ bn) ∨ (0 ≤ an ∧ bn < 0)) ∧ (∀ w, Calls Try.prog 50 #[.agg #[.int .u64 (wH (mg an * (bd / g))), .int .u64 (wL (mg an * (bd / g)))], .agg #[.int .u64 (wH (mg bn * (ad / g))), .int .u64 (wL (mg bn * (ad / g)))]] w fun e w' => e = .returned (.bool false) ∧ Gr w w') ∧ (∀ w, Calls Try.prog 51 #[.agg #[.int .u64 (wH (mg an * (bd / g))), .int .u64 (wL (mg an * (bd / g)))], .agg #[.int .u64 (wH (mg bn * (ad / g))), .int .u64 (wL (mg bn * (ad / g)))]] w fun e w' => e = .returned (.agg #[.int .u64 (wH (mg S)), .int .u64 (wL (mg S))]) ∧ Gr w w') ∧ NEG = decide (an < 0))) := by
    rcases sp with ⟨hs, e, hn⟩ | ⟨hs, e, hn⟩ | ⟨hs, hl, e, hn⟩ | ⟨hs, hl, e, hn⟩
    · exact ⟨decide (an < 0), fun _ => by rw [decide_eq_decide]; omega, .inl ⟨.inl hs, by rw [e], by rw [e], rfl⟩⟩
    · exact ⟨decide (an < 0), fun _ => by rw [decide_eq_decide]; omega, .inl ⟨.inr hs, by rw [e], by rw [e], rfl⟩⟩
    · refine ⟨decide (bn < 0), fun _ => hn.symm, .inr (.inl ⟨hs, fun w => ?_, fun w => ?_, rfl⟩)⟩
      · have := less_any (mg an * (bd / g)) (mg bn * (ad / g)) w x0 y0
        rw [show vless (mg an * (bd / g)) (mg bn * (ad / g)) = true from decide_eq_true hl] at this
        exact this
      · have := rminus_w (mg bn * (ad / g)) (mg an * (bd / g)) w x0 (by omega) (by unfold Fit; rw [mg_pos (by omega)]; omega)
        rw [← e] at this
        exact this
    · refine ⟨decide (an < 0), fun hz => (hn hz).symm, .inr (.inr ⟨hs, fun w => ?_, fun w => ?_, rfl⟩)⟩
      · have := less_any (mg an * (bd / g)) (mg bn * (ad / g)) w x0 y0
        rw [show vless (mg an * (bd / g)) (mg bn * (ad / g)) = false from decide_eq_false hl] at this
        exact this
      · have := rminus_w (mg an * (bd / g)) (mg bn * (ad / g)) w y0 (by omega) (by unfold Fit; rw [mg_pos (by omega)]; omega)
        rw [← e] at this
        exact this
  obtain ⟨NEG, hneg, hsum⟩ := hsum
  have qi0 : 0 ≤ mg S / h := Int.ediv_nonneg mS0 (by omega)
  have eQ2 := exact_quot h1 eM
  rw [r2, r3, r4, r1]
  have dH0 := wH_nonneg (ad / g * (bd / h))
  have dH1 := wH_lt F3.fit
  have dL0 := wL_nonneg (ad / g * (bd / h))
  have dL1 := wL_lt (ad / g * (bd / h))
  have dW := wHL (ad / g * (bd / h))
  rw [mg_pos d0] at dW
  have core := fun (q r RN RD RE : Int) (q1 : 0 ≤ q) (q2 : q < 18446744073709551616) => radd_core an ad bn bd g h (ad / g) (bd / g) (bd / h) (wH (mg an * (bd / g))) (wL (mg an * (bd / g))) (wH (mg bn * (ad / g))) (wL (mg bn * (ad / g))) (wH (mg an * (bd / g) + mg bn * (ad / g))) (wL (mg an * (bd / g) + mg bn * (ad / g)))
    (wH (mg S)) (wL (mg S)) (mg S % g) q r (wH (ad / g * (bd / h))) (wL (ad / g * (bd / h))) RN RD RE NEG w a1 hB2 b1 hD2 hA0 hC0 g1 (by omega) h1 (by omega) rfl rfl rfl
    (wH_nonneg _) (wH_lt (by unfold Fit; rw [mg_pos x0]; omega)) (wL_nonneg _) (wL_lt _) (wH_nonneg _) (wH_lt (by unfold Fit; rw [mg_pos y0]; omega)) (wL_nonneg _) (wL_lt _) (wH_nonneg _) (wH_lt fS) (wL_nonneg _) (wL_lt _) q1 q2 dH0 dH1 dL0 dL1
    HA HB (fun w => rgcd_g ad bd g w eg (by omega) (by omega) (by omega) (by omega)) (fun w => times_v (mg an) (bd / g) w ma ma2 (by omega) (by omega)) (fun w => times_v (mg bn) (ad / g) w mb mb2 (by omega) (by omega)) (fun w => rplus_w _ _ w x0 y0 fxy) hsum hr (fun w => rgcd_g (mg S % g) g h w eh m0 (by omega) (by omega) (by omega)) (fun w => times_v (ad / g) (bd / h) w (by omega) (by omega) (by omega) (by omega))
  have hwy := fun (hh : wH (mg S) < h) w => over_yes (mg S) h w mS0 fS hh (by omega)
  rcases wz mS0 with ⟨z1, z2, z3⟩ | ⟨z1, z2⟩
  · have hS : S = 0 := by unfold mg at z3; split at z3 <;> omega
    have eD1 : ad / g * (bd / h) = 1 := by
      rw [← eD, ← eG, eX, hS, Int.mul_zero]
      have : gc 0 (ad * bd) = ad * bd := by
        rw [gc_comm, gc_zero _ (Int.mul_nonneg (by omega) (by omega))]
      rw [this]
      exact Int.ediv_self (by have := Int.mul_pos (show 0 < ad by omega) (show 0 < bd by omega); omega)
    rw [eD1, hS]
    simp
    have := core (mg S / h) (mg S % h) 0 1 0 qi0 (by rw [z3]; simp) (.inl ⟨z1, z2, ⟨true, hwy (by omega)⟩, rfl, rfl, rfl⟩)
    exact this
  · have hS : S ≠ 0 := fun e => z2 (by rw [e]; rfl)
    by_cases hw : wH (mg S) < h
    · have qlt := (wH_mg_lt (u := mg S) mS0 h1).1 hw
      by_cases hd : 0 < wH (ad / g * (bd / h))
      · have hn : ¬ (-9223372036854775807 ≤ S / h ∧ S / h ≤ 9223372036854775807 ∧ ad / g * (bd / h) ≤ 9223372036854775807) := by omega
        rw [decide_eq_false hn]
        simp only [if_false, Bool.false_eq_true]
        exact core _ _ 0 0 2 qi0 qlt (.inr ⟨z1, .inr (.inl ⟨hwy hw, hd, rfl, rfl, rfl⟩)⟩)
      · have hd0 : wH (ad / g * (bd / h)) = 0 := by omega
        have eL : wL (ad / g * (bd / h)) = ad / g * (bd / h) := by omega
        have hm := fun w => rmade_any NEG (mg S / h) (wL (ad / g * (bd / h))) w qi0 qlt dL0 dL1
        have fin := core _ _ _ _ _ qi0 qlt (.inr ⟨z1, .inr (.inr ⟨hwy hw, hd0, hm⟩)⟩)
        rw [eL] at fin
        rw [hneg hS] at fin
        have hiff : (-9223372036854775807 ≤ S / h ∧ S / h ≤ 9223372036854775807 ∧ ad / g * (bd / h) ≤ 9223372036854775807) ↔ (mg S / h ≤ 9223372036854775807 ∧ ad / g * (bd / h) ≤ 9223372036854775807) := by
          rw [eQ2]; split <;> omega
        simp only [decide_eq_true_eq, hiff]
        simp only [decide_eq_true_eq] at fin
        rw [← eQ2] at fin
        exact fin
    · have hn : ¬ (-9223372036854775807 ≤ S / h ∧ S / h ≤ 9223372036854775807 ∧ ad / g * (bd / h) ≤ 9223372036854775807) := by
        have := (not_congr (wH_mg_lt (u := mg S) mS0 h1)).1 hw
        rw [eQ2]; split <;> omega
      rw [decide_eq_false hn]
      simp only [if_false, Bool.false_eq_true]
      exact core 0 0 0 0 2 (by omega) (by omega) (.inr ⟨z1, .inl ⟨fun w => over_no (mg S) h w hw, rfl, rfl, rfl⟩⟩)
end Go.Proofs.Ytclfiaemjdflbaa
