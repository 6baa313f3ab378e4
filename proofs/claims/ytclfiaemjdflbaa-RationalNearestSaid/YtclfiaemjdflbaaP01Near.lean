/-
  RationalNearest: for every input the law returns true, and the input reads as it did.
  Conditions: none.
-/
import Derived.Test.YtclfiaemjdflbaaLawNear
import Derived.Test.YtclfiaemjdflbaaLift
namespace Go.Proofs.Ytclfiaemjdflbaa
open Go.ChangeShapes Go.WideShapes Go.ChangeAt Go.RowKit Go.Joins
set_option linter.unusedVariables false

theorem red_small {X Y : Int} (hY : 0 < Y) (h1 : mg X ≤ 9223372036854775807) (h2 : Y ≤ 9223372036854775807) : rE X Y = 0 ∧ mg (rN X Y) ≤ mg X ∧ rD X Y ≤ Y := by
  have g0 := gc_pos_right X Y hY
  have a := Int.ediv_le_self (gc X Y) (mg_nonneg X)
  have b := Int.ediv_le_self (gc X Y) (show 0 ≤ Y by omega)
  have hF : rF X Y = true := decide_eq_true ⟨by omega, by omega⟩
  refine ⟨rE_zero.2 hF, ?_, ?_⟩
  · unfold rN
    rw [hF, if_pos rfl, ← mg_quot]
    exact a
  · unfold rD
    rw [hF, if_pos rfl]
    exact b
theorem le_of_pos_mul {a b k : Int} (hk : 0 < k) (h : k * a ≤ k * b) : a ≤ b := Int.le_of_mul_le_mul_left h hk
theorem lt_of_pos_mul {a b k : Int} (hk : 0 < k) (h : k * a < k * b) : a < b := Int.lt_of_mul_lt_mul_left h (by omega)
theorem mg_le_of {x k : Int} (h1 : x ≤ k) (h2 : -k ≤ x) : mg x ≤ k := by unfold mg; split <;> omega
theorem mg_out {x k : Int} (h : mg x ≤ k) : x ≤ k ∧ -k ≤ x := by unfold mg at h; split at h <;> omega
theorem vB_one (n : Int) (h : -9223372036854775808 < n) : vB n 1 = true := vB_true (by omega) h (by unfold gc; simp)
theorem mul_bound {a b A B : Int} (h1 : 0 ≤ a) (h2 : a ≤ A) (h3 : 0 ≤ b) (h4 : b ≤ B) : 0 ≤ a * b ∧ a * b ≤ A * B := ⟨Int.mul_nonneg h1 h3, Int.mul_le_mul h2 h4 h3 (by omega)⟩

set_option maxHeartbeats 1000000 in
theorem near_yes (n m fn fd tn td : Int) (w : World) (n1 : 0 ≤ n) (n2 : n ≤ 1048576) (m1 : 0 ≤ m) (m2 : m ≤ 1048576) (hf : smB fn fd = true) (ht : smB tn td = true) :
    Calls Try.prog 8 #[.int .i64 n, .int .i64 m, .agg #[.int .i64 fn, .int .i64 fd], .agg #[.int .i64 tn, .int .i64 td]] w fun e w' => e = .returned (.bool true) ∧ Gr w w' := by
  have HF := fun w => small_any fn fd w
  have hf' := hf
  have ht' := ht
  unfold smB at hf' ht'
  simp only [Bool.and_eq_true, decide_eq_true_eq] at hf' ht'
  obtain ⟨vf, f1, f2, f3⟩ := hf'
  obtain ⟨vt, t1, t2, t3⟩ := ht'
  obtain ⟨f4, _, _⟩ := vB_inv vf
  obtain ⟨t4, _, _⟩ := vB_inv vt
  have hif : I64 fn ∧ I64 fd := ⟨⟨by omega, by omega⟩, by omega, by omega⟩
  have hit : I64 tn ∧ I64 td := ⟨⟨by omega, by omega⟩, by omega, by omega⟩
  have HF := fun w => small_any fn fd w hif.1 hif.2
  have HT := fun w => small_any tn td w hit.1 hit.2
  rw [hf] at HF
  rw [ht] at HT
  have sf : scB fn fd = true := by unfold scB; rw [vf, Bool.true_and]; exact decide_eq_true (by omega)
  have st : scB tn td = true := by unfold scB; rw [vt, Bool.true_and]; exact decide_eq_true (by omega)
  have HP := fun w => position_yes n fn fd tn td w ⟨by omega, by omega⟩ sf st
  have HQ := fun w => position_yes (n + m) fn fd tn td w ⟨by omega, by omega⟩ sf st
  have hA := mul_bound (show 0 ≤ tn by omega) t2 (show 0 ≤ fd by omega) f3
  have hB := mul_bound (show 0 ≤ td by omega) t3 (show 0 ≤ fn by omega) f2
  have hB0 : 0 < td * fn := Int.mul_pos (by omega) f1
  obtain ⟨A, eA⟩ : ∃ A, tn * fd = A := ⟨_, rfl⟩
  obtain ⟨B, eB⟩ : ∃ B, td * fn = B := ⟨_, rfl⟩
  rw [eA, eB] at HP HQ
  rw [eA] at hA
  rw [eB] at hB hB0
  have hnA := mul_bound n1 n2 hA.1 hA.2
  have hmA := mul_bound (show 0 ≤ n + m by omega) (show n + m ≤ 2097152 by omega) hA.1 hA.2
  have pv : ∀ k : Int, 0 ≤ k → k ≤ 2305843009213693952 → 0 ≤ (2 * k + B) / (2 * B) ∧ (2 * k + B) / (2 * B) ≤ 2 * k + B := fun k h1 h2 => ⟨Int.ediv_nonneg (by omega) (by omega), Int.ediv_le_self _ (by omega)⟩
  have p1 := pv (n * A) hnA.1 (by omega)
  have q1 := pv ((n + m) * A) hmA.1 (by omega)
  have hPP : psP n A B = true := by unfold psP; exact decide_eq_true (by omega)
  have hPQ : psP (n + m) A B = true := by unfold psP; exact decide_eq_true (by omega)
  unfold psQ psE at HP HQ
  rw [hPP] at HP
  rw [hPQ] at HQ
  simp only [if_true] at HP HQ
  have hle : n * A ≤ (n + m) * A := Int.mul_le_mul_of_nonneg_right (by omega) hA.1
  have hpq : (2 * (n * A) + B) / (2 * B) ≤ (2 * ((n + m) * A) + B) / (2 * B) := Int.ediv_le_ediv (by omega) (by omega)
  have d1 := Int.mul_ediv_add_emod (2 * (n * A) + B) (2 * B)
  have d2 := Int.emod_nonneg (2 * (n * A) + B) (show 2 * B ≠ 0 by omega)
  have d3 := Int.emod_lt_of_pos (2 * (n * A) + B) (show 0 < 2 * B by omega)
  generalize (2 * ((n + m) * A) + B) / (2 * B) = q at *
  generalize (2 * (n * A) + B) / (2 * B) = p at *
  generalize (2 * (n * A) + B) % (2 * B) = r at *
  -- the product
  have HM := fun w => rmul_any tn td n 1 w hit.1 hit.2 ⟨by omega, by omega⟩ ⟨by omega, by omega⟩
  rw [vt, vB_one n (by omega), show (true && true) = true from rfl, arV_yes, Int.mul_one] at HM
  have htn := mul_bound (show 0 ≤ tn by omega) t2 n1 n2
  obtain ⟨z1, z2, z3⟩ := red_small (X := tn * n) (Y := td) (by omega) (by rw [mg_pos htn.1]; omega) (by omega)
  obtain ⟨v1, e1, y1, _, _, _⟩ := red_spec (X := tn * n) (Y := td) (by omega) z1
  rw [z1] at HM
  rw [mg_pos htn.1] at z2
  have x1 : 0 ≤ rN (tn * n) td := by
    rcases Int.lt_or_le (rN (tn * n) td) 0 with h | h
    · have a := Int.mul_neg_of_neg_of_pos h (show 0 < td by omega)
      have b := Int.mul_nonneg htn.1 (show 0 ≤ rD (tn * n) td by omega)
      omega
    · exact h
  rw [mg_pos x1] at z2
  generalize rN (tn * n) td = X1 at *
  generalize rD (tn * n) td = Y1 at *
  -- the quotient
  have HD := fun w => rdiv_any X1 Y1 fn fd w ⟨by omega, by omega⟩ ⟨by omega, by omega⟩ hif.1 hif.2
  unfold dvX dvY at HD
  rw [v1, vf, show decide (fn ≠ 0) = true from decide_eq_true (by omega), show (true && true && true) = true from rfl, arV_yes, if_neg (by omega), if_neg (by omega)] at HD
  have hx := mul_bound x1 (show X1 ≤ 1099511627776 by omega) (show 0 ≤ fd by omega) f3
  have hy := mul_bound (show 0 ≤ Y1 by omega) (show Y1 ≤ 1048576 by omega) (show 0 ≤ fn by omega) f2
  have hy0 : 0 < Y1 * fn := Int.mul_pos y1 f1
  obtain ⟨u1, u2, u3⟩ := red_small (X := X1 * fd) (Y := Y1 * fn) hy0 (by rw [mg_pos hx.1]; omega) (by omega)
  obtain ⟨v2, e2, y2, _, b2, b3⟩ := red_spec (X := X1 * fd) (Y := Y1 * fn) hy0 u1
  rw [u1] at HD
  rw [mg_pos hx.1] at u2
  generalize rN (X1 * fd) (Y1 * fn) = X2 at *
  generalize rD (X1 * fd) (Y1 * fn) = Y2 at *
  have rel : B * X2 = n * A * Y2 := by
    have : Y1 * (B * X2) = Y1 * (n * A * Y2) := by grind
    exact Int.eq_of_mul_eq_mul_left (by omega) this
  -- the difference
  have hw1 : 2 * (p * Y2 + -X2 * 1) ≤ Y2 := by
    refine le_of_pos_mul hB0 ?_
    have h : B * (2 * (p * Y2 + -X2 * 1)) = Y2 * (2 * B * p - 2 * (n * A)) := by grind
    rw [h, Int.mul_comm B Y2]
    exact Int.mul_le_mul_of_nonneg_left (by omega) (by omega)
  have hw2 : -Y2 < 2 * (p * Y2 + -X2 * 1) := by
    refine lt_of_pos_mul hB0 ?_
    have h : B * (2 * (p * Y2 + -X2 * 1)) = Y2 * (2 * B * p - 2 * (n * A)) := by grind
    rw [h, show B * -Y2 = Y2 * -B by grind]
    exact Int.mul_lt_mul_of_pos_left (by omega) (by omega)
  have HS := fun w => radd_any p 1 (-X2) Y2 w ⟨by omega, by omega⟩ ⟨by omega, by omega⟩ ⟨by omega, by omega⟩ ⟨by omega, by omega⟩
  rw [vB_one p (by omega), vB_opp X2 Y2 ⟨by omega, by omega⟩ v2, show (true && true) = true from rfl, arV_yes, Int.one_mul] at HS
  obtain ⟨W, eW⟩ : ∃ W, p * Y2 + -X2 * 1 = W := ⟨_, rfl⟩
  rw [eW] at HS hw1 hw2
  obtain ⟨s1, s2, s3⟩ := red_small (X := W) (Y := Y2) y2 (mg_le_of (by omega) (by omega)) (by omega)
  obtain ⟨v3, e3, y3, b4, b5, b6⟩ := red_spec (X := W) (Y := Y2) y2 s1
  rw [s1] at HS
  generalize rN W Y2 = X3 at *
  generalize rD W Y2 = Y3 at *
  have c1 : X3 * 2 ≤ 1 * Y3 := by
    refine le_of_pos_mul y2 ?_
    rw [show Y2 * (X3 * 2) = 2 * W * Y3 by grind, Int.one_mul]
    exact Int.mul_le_mul_of_nonneg_right hw1 (by omega)
  have c2 : -1 * Y3 < X3 * 2 := by
    refine lt_of_pos_mul y2 ?_
    rw [show Y2 * (X3 * 2) = 2 * W * Y3 by grind, show Y2 * (-1 * Y3) = -Y2 * Y3 by grind]
    exact Int.mul_lt_mul_of_pos_right hw2 y3
  have HC1 := fun w => rcmp_any X3 Y3 1 2 w ⟨by omega, by omega⟩ ⟨by omega, by omega⟩ ⟨by omega, by omega⟩ ⟨by omega, by omega⟩
  have HC2 := fun w => rcmp_any X3 Y3 (-1) 2 w ⟨by omega, by omega⟩ ⟨by omega, by omega⟩ ⟨by omega, by omega⟩ ⟨by omega, by omega⟩
  rw [v3, show vB 1 2 = true by decide +kernel, show (true && true) = true from rfl, if_pos rfl] at HC1
  rw [v3, show vB (-1) 2 = true by decide +kernel, show (true && true) = true from rfl, if_pos rfl, show cmV X3 Y3 (-1) 2 = 1 by unfold cmV; rw [if_neg (by omega), if_neg (by omega)]] at HC2
  have hc1 : cmV X3 Y3 1 2 ≤ 0 := by
    unfold cmV
    by_cases h : X3 * 2 < 1 * Y3
    · rw [if_pos h]; omega
    · rw [if_neg h, if_pos (by omega)]; omega
  exact near_core n m fn fd tn td p q X1 Y1 X2 Y2 X3 Y3 _ w n1 n2 m1 m2 hpq hc1 (by omega) (by omega) HF HT HP HQ HM HD HS HC1 HC2

theorem lawNear_walk (n m fn fd tn td : Int) (w : World) (h1 : I64 fn) (h2 : I64 fd) (h3 : I64 tn) (h4 : I64 td) :
    Calls Try.prog 8 #[.int .i64 n, .int .i64 m, .agg #[.int .i64 fn, .int .i64 fd], .agg #[.int .i64 tn, .int .i64 td]] w fun e w' => e = .returned (.bool true) ∧ Gr w w' := by
  have HF := fun w => small_any fn fd w h1 h2
  have HT := fun w => small_any tn td w h3 h4
  by_cases hr : 0 ≤ n ∧ n ≤ 1048576 ∧ 0 ≤ m ∧ m ≤ 1048576
  · obtain ⟨a, b, c, d⟩ := hr
    cases hf : smB fn fd
    · exact near_no n m fn fd tn td w _ _ (.inr (.inr (.inr (.inr (.inl ⟨a, b, c, d, hf⟩))))) HF HT
    · cases ht : smB tn td
      · exact near_no n m fn fd tn td w _ _ (.inr (.inr (.inr (.inr (.inr ⟨a, b, c, d, hf, ht⟩))))) HF HT
      · exact near_yes n m fn fd tn td w a b c d hf ht
  · exact near_no n m fn fd tn td w _ _ (by omega) HF HT

set_option maxRecDepth 100000 in
theorem rationalNearest_lifted (os : Os) (started : os.Started) (H : Type) (enc : TypeId × Value → H) :
    ReturnsInHanded {} Try.checked os 8 .any (Rows.rationalNearestSpec.pre6 enc Try.prog Try.f8 Rows.rationalNearestRow.domain false) (Rows.rationalNearestSpec.post enc Try.prog Try.f8 false true false false) := by
  refine returnsInHanded_of_change (C := Try.checked) own started (by kernel_rfl) Try.func8
    (ChangeSpec.witness6 (enc := enc) (C := Try.checked) false ⟨#[], #[.int .i64 0, .int .i64 0, .agg #[.int .i64 0, .int .i64 0], .agg #[.int .i64 0, .int .i64 0]], []⟩ 8 (by kernel_rfl) (by kernel_rfl) (by kernel_rfl) (by kernel_rfl)) ?_
  intro W base args ds gs before hval0 hW _ _
  have hval : ∀ (j : Nat) t v, Try.f8.params[j]? = some t → args[j]? = some v → Value.okWide Try.prog W .any base t v := hval0
  have hW' := hW
  obtain ⟨p, q, hA0, hV, _, _, _⟩ := hW
  have hA : DataW.TrodAll enc Try.prog W 0 (fun _ => true) true Try.f8.params.toList args.toList ds p := hA0
  rw [Try.params8] at hA hval
  obtain ⟨v0, vs0, d0, ds0, p0, q0, hargs, rfl, rfl, h0, r0⟩ := trodAll_cons hA
  obtain ⟨v1, vs1, d1, ds1, p1, q1, rfl, rfl, rfl, h1, r1⟩ := trodAll_cons r0
  obtain ⟨v2, vs2, d2, ds2, p2, q2, rfl, rfl, rfl, h2, r2⟩ := trodAll_cons r1
  obtain ⟨v3, vs3, d3, ds3, p3, q3, rfl, rfl, rfl, h3, r3⟩ := trodAll_cons r2
  obtain ⟨rfl, rfl, rfl⟩ := trodAll_nil r3
  obtain rfl : args = #[v0, v1, v2, v3] := by cases args; simp_all
  obtain ⟨rfl, rfl⟩ := trodVars_none hV
  obtain ⟨a0, rfl, rfl, rfl, w0⟩ := open_int Try.underlying3 (hval 0 3 v0 rfl rfl) h0
  obtain ⟨a1, rfl, rfl, rfl, w1⟩ := open_int Try.underlying3 (hval 1 3 v1 rfl rfl) h1
  obtain ⟨c20, c21, y20, y21, m2, rfl, rfl, rfl, hy20, hy21⟩ := open_agg2 Try.underlying23 (by kernel_rfl) (by kernel_rfl) (hval 2 23 v2 rfl rfl) h2
  obtain ⟨a20, e20, rfl, w20⟩ := DataW.trod_int Try.underlying2 hy20
  obtain ⟨a21, e21, rfl, w21⟩ := DataW.trod_int Try.underlying2 hy21
  simp at e20 e21; subst e20 e21
  obtain ⟨c30, c31, y30, y31, m3, rfl, rfl, rfl, hy30, hy31⟩ := open_agg2 Try.underlying23 (by kernel_rfl) (by kernel_rfl) (hval 3 23 v3 rfl rfl) h3
  obtain ⟨a30, e30, rfl, w30⟩ := DataW.trod_int Try.underlying2 hy30
  obtain ⟨a31, e31, rfl, w31⟩ := DataW.trod_int Try.underlying2 hy31
  simp at e30 e31; subst e30 e31
  refine (lawNear_walk a0 a1 a20 a21 a30 a31 W (i64_of_wf w20) (i64_of_wf w21) (i64_of_wf w30) (i64_of_wf w31)).mono fun e W' ⟨he, hg⟩ => ?_
  subst he
  exact ⟨_, rfl, law_post 4 laidOut (by kernel_rfl) rfl Try.underlying4 rfl rfl rfl rfl hW' hg⟩

theorem rationalNearest_holds : Rows.RationalNearestSaid :=
  OpenClaim.holds_of_wide 8 Try.f8 rfl rfl rfl rfl rfl rfl rfl ⟨rfl, rfl, rfl, rfl, rfl⟩ rfl rfl rfl rfl rfl (by kernel_rfl) Try.func8 (by kernel_rfl)
    (of_decide_eq_true (by kernel_rfl)) (by unfold Func.isWrapper; first | (rw [if_pos (by decide +kernel)]; kernel_rfl) | (rw [if_neg (by decide +kernel)]; exact ⟨rfl, rfl⟩))
    (fun os started H enc _ => rationalNearest_lifted os started H enc)
#print axioms rationalNearest_holds
end Go.Proofs.Ytclfiaemjdflbaa
