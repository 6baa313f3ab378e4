/-
  RationalField: for every input the law returns true, and the input reads as it did.
  Conditions: none.
-/
import Derived.Test.YtclfiaemjdflbaaLawField
import Derived.Test.YtclfiaemjdflbaaLift
namespace Go.Proofs.Ytclfiaemjdflbaa
open Go.ChangeShapes Go.WideShapes Go.ChangeAt Go.RowKit Go.Joins
set_option linter.unusedVariables false

set_option maxHeartbeats 1000000 in
theorem lawField_valid (an ad bn bd cn cd : Int) (w : World) (hA : I64 an) (hB : I64 ad) (hC : I64 bn) (hD : I64 bd) (hE : I64 cn) (hF : I64 cd) (va : vB an ad = true) (vb : vB bn bd = true) (vc : vB cn cd = true) :
    Calls Try.prog 11 #[.agg #[.int .i64 an, .int .i64 ad], .agg #[.int .i64 bn, .int .i64 bd], .agg #[.int .i64 cn, .int .i64 cd]] w fun e w' => e = .returned (.bool true) ∧ Gr w w' := by
  obtain ⟨a1, a2, a3⟩ := vB_inv va
  obtain ⟨b1, b2, b3⟩ := vB_inv vb
  obtain ⟨c1, c2, c3⟩ := vB_inv vc
  have HA := fun w => rvalid_any an ad w hA hB
  have HB := fun w => rvalid_any bn bd w hC hD
  have HC := fun w => rvalid_any cn cd w hE hF
  rw [va] at HA
  rw [vb] at HB
  rw [vc] at HC
  have pab : 0 < ad * bd := Int.mul_pos (by omega) (by omega)
  have pba : 0 < bd * ad := Int.mul_pos (by omega) (by omega)
  have pbc : 0 < bd * cd := Int.mul_pos (by omega) (by omega)
  have pac : 0 < ad * cd := Int.mul_pos (by omega) (by omega)
  -- a + b
  have P1 := fun w => add_any an ad bn bd w hA hB hC hD
  have P2 := fun w => add_any bn bd an ad w hC hD hA hB
  rw [va, vb, Bool.true_and] at P1 P2
  have P2' : ∀ w, Calls Try.prog 31 #[.agg #[.int .i64 bn, .int .i64 bd], .agg #[.int .i64 an, .int .i64 ad]] w fun e w' => e = .returned (arV true (an * bd + bn * ad) (ad * bd)) ∧ Gr w w' := fun w => by
    have h := P2 w
    obtain ⟨_, q1, q2, q3⟩ := red_unique pba pab (show (bn * ad + an * bd) * (ad * bd) = (an * bd + bn * ad) * (bd * ad) by grind)
    rw [arV_yes, q1, q2, q3] at h
    rw [arV_yes]
    exact h
  have i1 := red_i64 (X := an * bd + bn * ad) pab
  have s1 := red_spec (X := an * bd + bn * ad) pab
  have P3 := fun w => add_any bn bd cn cd w hC hD hE hF
  rw [vb, vc, Bool.true_and] at P3
  have i3 := red_i64 (X := bn * cd + cn * bd) pbc
  have s3 := red_spec (X := bn * cd + cn * bd) pbc
  have P7 := fun w => mul_any an ad bn bd w hA hB hC hD
  have P8 := fun w => mul_any bn bd an ad w hC hD hA hB
  rw [va, vb, Bool.true_and] at P7 P8
  have P8' : ∀ w, Calls Try.prog 34 #[.agg #[.int .i64 bn, .int .i64 bd], .agg #[.int .i64 an, .int .i64 ad]] w fun e w' => e = .returned (arV true (an * bn) (ad * bd)) ∧ Gr w w' := fun w => by
    have h := P8 w
    rw [Int.mul_comm bn an, Int.mul_comm bd ad] at h
    exact h
  have i7 := red_i64 (X := an * bn) pab
  have s7 := red_spec (X := an * bn) pab
  have P10 := fun w => mul_any an ad cn cd w hA hB hE hF
  have P11 := fun w => mul_any bn bd cn cd w hC hD hE hF
  rw [va, vc, Bool.true_and] at P10
  rw [vb, vc, Bool.true_and] at P11
  have i10 := red_i64 (X := an * cn) pac
  have s10 := red_spec (X := an * cn) pac
  have i11 := red_i64 (X := bn * cn) pbc
  have s11 := red_spec (X := bn * cn) pbc
  have P4 := fun w => add_any (rN (an * bd + bn * ad) (ad * bd)) (rD (an * bd + bn * ad) (ad * bd)) cn cd w i1.1 i1.2 hE hF
  have P5 := fun w => add_any an ad (rN (bn * cd + cn * bd) (bd * cd)) (rD (bn * cd + cn * bd) (bd * cd)) w hA hB i3.1 i3.2
  have P6 := fun w => sub_any (rN (an * bd + bn * ad) (ad * bd)) (rD (an * bd + bn * ad) (ad * bd)) bn bd w i1.1 i1.2 hC hD
  have P9 := fun w => div_any (rN (an * bn) (ad * bd)) (rD (an * bn) (ad * bd)) bn bd w i7.1 i7.2 hC hD
  have P12 := fun w => mul_any (rN (an * bd + bn * ad) (ad * bd)) (rD (an * bd + bn * ad) (ad * bd)) cn cd w i1.1 i1.2 hE hF
  have P13 := fun w => add_any (rN (an * cn) (ad * cd)) (rD (an * cn) (ad * cd)) (rN (bn * cn) (bd * cd)) (rD (bn * cn) (bd * cd)) w i10.1 i10.2 i11.1 i11.2
  refine lawField_core an ad bn bd cn cd _ _ _ _ _ _ _ _ _ _ _ _ _ _ _ _ _ _ _ _ _ _ _ _ _ _ _ _ _ _ _ _ _ w HA HB HC P1 P2' P3 P4 P5 ?_ P6 ?_ P7 P8' P9 ?_ P10 P11 P12 P13 ?_
  · intro h1 h3
    obtain ⟨v1, e1, d1, _, _, _⟩ := s1 h1
    obtain ⟨v3, e3, d3, _, _, _⟩ := s3 h3
    rw [v1, v3, va, vc]
    rw [show (true && true) = true from rfl]
    obtain ⟨_, q1, q2, q3⟩ := red_unique (X := an * rD (bn * cd + cn * bd) (bd * cd) + rN (bn * cd + cn * bd) (bd * cd) * ad) (Y := ad * rD (bn * cd + cn * bd) (bd * cd)) (Int.mul_pos (by omega) d3) (Int.mul_pos d1 (by omega)) (add_assoc_ratio e1 e3 (by omega) (by omega) (by omega)).symm
    exact ⟨q1, q2, q3⟩
  · intro h1
    obtain ⟨v1, e1, d1, _, _, _⟩ := s1 h1
    rw [v1, vb]
    rw [show (true && true) = true from rfl]
    exact red_to (Int.mul_pos d1 (by omega)) va hA.2 hB.2 (sub_back_ratio e1 (by omega))
  · intro h7 hb
    obtain ⟨v7, e7, d7, _, _, _⟩ := s7 h7
    rw [v7, vb, show decide (bn ≠ 0) = true from decide_eq_true hb]
    rw [show (true && true && true) = true from rfl]
    unfold dvX dvY
    by_cases hs : bn < 0
    · rw [if_pos hs, if_pos hs]
      exact red_to (Int.mul_pos d7 (by omega)) va hA.2 hB.2 (div_back_ratio e7 (by omega) (.inr ⟨rfl, rfl⟩))
    · rw [if_neg hs, if_neg hs]
      exact red_to (Int.mul_pos d7 (by omega)) va hA.2 hB.2 (div_back_ratio e7 (by omega) (.inl ⟨rfl, rfl⟩))
  · intro h1 h10 h11 h12 h13
    obtain ⟨v1, e1, d1, _, _, _⟩ := s1 h1
    obtain ⟨v10, e10, d10, _, _, _⟩ := s10 h10
    obtain ⟨v11, e11, d11, _, _, _⟩ := s11 h11
    rw [v1, v10, v11, vc, show (true && true) = true from rfl]
    obtain ⟨_, q1, q2, q3⟩ := red_unique (X := rN (an * cn) (ad * cd) * rD (bn * cn) (bd * cd) + rN (bn * cn) (bd * cd) * rD (an * cn) (ad * cd)) (Y := rD (an * cn) (ad * cd) * rD (bn * cn) (bd * cd)) (Int.mul_pos d10 d11) (Int.mul_pos d1 (by omega)) (distr_ratio (x := 0) (y := 0) e1 e10 e11 (by omega) (by omega) (by omega)).symm
    exact ⟨q1, q2⟩

set_option maxRecDepth 100000 in
set_option maxHeartbeats 1000000 in
theorem lawField_no (an ad bn bd cn cd : Int) (ba bb bc : Bool) (w : World) (hb : ba = false ∨ (ba = true ∧ bb = false) ∨ (ba = true ∧ bb = true ∧ bc = false))
    (HA : ∀ w, Calls Try.prog 16 #[.agg #[.int .i64 an, .int .i64 ad]] w fun e w' => e = .returned (.bool ba) ∧ Gr w w')
    (HB : ∀ w, Calls Try.prog 16 #[.agg #[.int .i64 bn, .int .i64 bd]] w fun e w' => e = .returned (.bool bb) ∧ Gr w w')
    (HC : ∀ w, Calls Try.prog 16 #[.agg #[.int .i64 cn, .int .i64 cd]] w fun e w' => e = .returned (.bool bc) ∧ Gr w w') :
    Calls Try.prog 11 #[.agg #[.int .i64 an, .int .i64 ad], .agg #[.int .i64 bn, .int .i64 bd], .agg #[.int .i64 cn, .int .i64 cd]] w fun e w' => e = .returned (.bool true) ∧ Gr w w' := by
  have HA := Lib.hid HA
  have HB := Lib.hid HB
  have HC := Lib.hid HC
  rcases hb with rfl | ⟨rfl, rfl⟩ | ⟨rfl, rfl, rfl⟩
  all_goals
    go_enter Try.func11, Try.ntmps11
    go_wp2_with (first
      | (go_at_call 16; with_reducible refine (HA.out _).mono ?_; rintro e w1 ⟨rfl, hg1⟩; obtain ⟨hc1, hf1⟩ := hg1.cells; have hz1 := hg1.size; (try simp at hz1); (try have hl1_0_0 : w.heap.size < w1.heap.size := by omega); (try have hm1_0_0 : w.heap.size ≤ w1.heap.size := by omega); (try have hl1_0_1 : w.heap.size + 1 < w1.heap.size := by omega); (try have hl1_0_2 : w.heap.size + 2 < w1.heap.size := by omega))
      | (go_at_call 16; with_reducible refine (HB.out _).mono ?_; rintro e w2 ⟨rfl, hg2⟩; obtain ⟨hc2, hf2⟩ := hg2.cells; have hz2 := hg2.size; (try simp at hz2); (try have hl2_0_0 : w.heap.size < w2.heap.size := by omega); (try have hm2_0_0 : w.heap.size ≤ w2.heap.size := by omega); (try have hl2_0_1 : w.heap.size + 1 < w2.heap.size := by omega); (try have hl2_0_2 : w.heap.size + 2 < w2.heap.size := by omega); (try have hl2_1_0 : w1.heap.size < w2.heap.size := by omega); (try have hm2_1_0 : w1.heap.size ≤ w2.heap.size := by omega); (try have hl2_1_1 : w1.heap.size + 1 < w2.heap.size := by omega); (try have hl2_1_2 : w1.heap.size + 2 < w2.heap.size := by omega))
      | (go_at_call 16; with_reducible refine (HC.out _).mono ?_; rintro e w3 ⟨rfl, hg3⟩; obtain ⟨hc3, hf3⟩ := hg3.cells; have hz3 := hg3.size; (try simp at hz3); (try have hl3_0_0 : w.heap.size < w3.heap.size := by omega); (try have hm3_0_0 : w.heap.size ≤ w3.heap.size := by omega); (try have hl3_0_1 : w.heap.size + 1 < w3.heap.size := by omega); (try have hl3_0_2 : w.heap.size + 2 < w3.heap.size := by omega); (try have hl3_1_0 : w1.heap.size < w3.heap.size := by omega); (try have hm3_1_0 : w1.heap.size ≤ w3.heap.size := by omega); (try have hl3_1_1 : w1.heap.size + 1 < w3.heap.size := by omega); (try have hl3_1_2 : w1.heap.size + 2 < w3.heap.size := by omega); (try have hl3_2_0 : w2.heap.size < w3.heap.size := by omega); (try have hm3_2_0 : w2.heap.size ≤ w3.heap.size := by omega); (try have hl3_2_1 : w2.heap.size + 1 < w3.heap.size := by omega); (try have hl3_2_2 : w2.heap.size + 2 < w3.heap.size := by omega))
      | (go_at_call 14; with_reducible refine (awake_any _).mono ?_; rintro e w4 ⟨rfl, hg4⟩; obtain ⟨hc4, hf4⟩ := hg4.cells; have hz4 := hg4.size; (try simp at hz4); (try have hl4_0_0 : w.heap.size < w4.heap.size := by omega); (try have hm4_0_0 : w.heap.size ≤ w4.heap.size := by omega); (try have hl4_0_1 : w.heap.size + 1 < w4.heap.size := by omega); (try have hl4_0_2 : w.heap.size + 2 < w4.heap.size := by omega); (try have hl4_1_0 : w1.heap.size < w4.heap.size := by omega); (try have hm4_1_0 : w1.heap.size ≤ w4.heap.size := by omega); (try have hl4_1_1 : w1.heap.size + 1 < w4.heap.size := by omega); (try have hl4_1_2 : w1.heap.size + 2 < w4.heap.size := by omega); (try have hl4_2_0 : w2.heap.size < w4.heap.size := by omega); (try have hm4_2_0 : w2.heap.size ≤ w4.heap.size := by omega); (try have hl4_2_1 : w2.heap.size + 1 < w4.heap.size := by omega); (try have hl4_2_2 : w2.heap.size + 2 < w4.heap.size := by omega); (try have hl4_3_0 : w3.heap.size < w4.heap.size := by omega); (try have hm4_3_0 : w3.heap.size ≤ w4.heap.size := by omega); (try have hl4_3_1 : w3.heap.size + 1 < w4.heap.size := by omega); (try have hl4_3_2 : w3.heap.size + 2 < w4.heap.size := by omega)))
    go_ret
    exact ⟨ret_bool rfl, (by repeat (first | with_reducible exact Gr.refl _ | with_reducible assumption | refine Gr.setCell ?_ (by first | omega | (simp; done) | (simp; omega)) _ | refine Gr.alloc ?_ _ | refine Gr.drew ?_ | refine Gr.drewN ?_ _ | refine Gr.trans ?_ (by with_reducible assumption)))⟩

theorem lawField_walk (an ad bn bd cn cd : Int) (w : World) (hA : I64 an) (hB : I64 ad) (hC : I64 bn) (hD : I64 bd) (hE : I64 cn) (hF : I64 cd) :
    Calls Try.prog 11 #[.agg #[.int .i64 an, .int .i64 ad], .agg #[.int .i64 bn, .int .i64 bd], .agg #[.int .i64 cn, .int .i64 cd]] w fun e w' => e = .returned (.bool true) ∧ Gr w w' := by
  have HA := fun w => rvalid_any an ad w hA hB
  have HB := fun w => rvalid_any bn bd w hC hD
  have HC := fun w => rvalid_any cn cd w hE hF
  cases va : vB an ad
  · exact lawField_no an ad bn bd cn cd _ _ _ w (.inl va) HA HB HC
  · cases vb : vB bn bd
    · exact lawField_no an ad bn bd cn cd _ _ _ w (.inr (.inl ⟨va, vb⟩)) HA HB HC
    · cases vc : vB cn cd
      · exact lawField_no an ad bn bd cn cd _ _ _ w (.inr (.inr ⟨va, vb, vc⟩)) HA HB HC
      · exact lawField_valid an ad bn bd cn cd w hA hB hC hD hE hF va vb vc

set_option maxRecDepth 100000 in
theorem rationalField_lifted (os : Os) (started : os.Started) (H : Type) (enc : TypeId × Value → H) :
    ReturnsInHanded {} Try.checked os 11 .any (Rows.rationalFieldSpec.pre6 enc Try.prog Try.f11 Rows.rationalFieldRow.domain false) (Rows.rationalFieldSpec.post enc Try.prog Try.f11 false true false false) := by
  refine returnsInHanded_of_change (C := Try.checked) own started (by kernel_rfl) Try.func11
    (ChangeSpec.witness6 (enc := enc) (C := Try.checked) false ⟨#[], #[.agg #[.int .i64 0, .int .i64 0], .agg #[.int .i64 0, .int .i64 0], .agg #[.int .i64 0, .int .i64 0]], []⟩ 8 (by kernel_rfl) (by kernel_rfl) (by kernel_rfl) (by kernel_rfl)) ?_
  intro W base args ds gs before hval0 hW _ _
  have hval : ∀ (j : Nat) t v, Try.f11.params[j]? = some t → args[j]? = some v → Value.okWide Try.prog W .any base t v := hval0
  have hW' := hW
  obtain ⟨p, q, hA0, hV, _, _, _⟩ := hW
  have hA : DataW.TrodAll enc Try.prog W 0 (fun _ => true) true Try.f11.params.toList args.toList ds p := hA0
  rw [Try.params11] at hA hval
  obtain ⟨v0, vs0, d0, ds0, p0, q0, hargs, rfl, rfl, h0, r0⟩ := trodAll_cons hA
  obtain ⟨v1, vs1, d1, ds1, p1, q1, rfl, rfl, rfl, h1, r1⟩ := trodAll_cons r0
  obtain ⟨v2, vs2, d2, ds2, p2, q2, rfl, rfl, rfl, h2, r2⟩ := trodAll_cons r1
  obtain ⟨rfl, rfl, rfl⟩ := trodAll_nil r2
  obtain rfl : args = #[v0, v1, v2] := by cases args; simp_all
  obtain ⟨rfl, rfl⟩ := trodVars_none hV
  obtain ⟨c00, c01, y00, y01, m0, rfl, rfl, rfl, hy00, hy01⟩ := open_agg2 Try.underlying23 (by kernel_rfl) (by kernel_rfl) (hval 0 23 v0 rfl rfl) h0
  obtain ⟨a00, e00, rfl, w00⟩ := DataW.trod_int Try.underlying2 hy00
  obtain ⟨a01, e01, rfl, w01⟩ := DataW.trod_int Try.underlying2 hy01
  simp at e00 e01; subst e00 e01
  obtain ⟨c10, c11, y10, y11, m1, rfl, rfl, rfl, hy10, hy11⟩ := open_agg2 Try.underlying23 (by kernel_rfl) (by kernel_rfl) (hval 1 23 v1 rfl rfl) h1
  obtain ⟨a10, e10, rfl, w10⟩ := DataW.trod_int Try.underlying2 hy10
  obtain ⟨a11, e11, rfl, w11⟩ := DataW.trod_int Try.underlying2 hy11
  simp at e10 e11; subst e10 e11
  obtain ⟨c20, c21, y20, y21, m2, rfl, rfl, rfl, hy20, hy21⟩ := open_agg2 Try.underlying23 (by kernel_rfl) (by kernel_rfl) (hval 2 23 v2 rfl rfl) h2
  obtain ⟨a20, e20, rfl, w20⟩ := DataW.trod_int Try.underlying2 hy20
  obtain ⟨a21, e21, rfl, w21⟩ := DataW.trod_int Try.underlying2 hy21
  simp at e20 e21; subst e20 e21
  refine (lawField_walk a00 a01 a10 a11 a20 a21 W (i64_of_wf w00) (i64_of_wf w01) (i64_of_wf w10) (i64_of_wf w11) (i64_of_wf w20) (i64_of_wf w21)).mono fun e W' ⟨he, hg⟩ => ?_
  subst he
  exact ⟨_, rfl, law_post 4 laidOut (by kernel_rfl) rfl Try.underlying4 rfl rfl rfl rfl hW' hg⟩

theorem rationalField_holds : Rows.RationalFieldSaid :=
  OpenClaim.holds_of_wide 11 Try.f11 rfl rfl rfl rfl rfl rfl rfl ⟨rfl, rfl, rfl, rfl, rfl⟩ rfl rfl rfl rfl rfl (by kernel_rfl) Try.func11 (by kernel_rfl)
    (of_decide_eq_true (by kernel_rfl)) (by unfold Func.isWrapper; first | (rw [if_pos (by decide +kernel)]; kernel_rfl) | (rw [if_neg (by decide +kernel)]; exact ⟨rfl, rfl⟩))
    (fun os started H enc _ => rationalField_lifted os started H enc)
#print axioms rationalField_holds
end Go.Proofs.Ytclfiaemjdflbaa
