/-
  RationalCmp and RationalOrder: for every input the law returns true, and the input reads as it did, where the variable orders holds what the program's text lays; tied to the text.
  Conditions: the listed variable.
-/
import Derived.Test.YtclfiaemjdflbaaDoorLawOrd
import Derived.Test.YtclfiaemjdflbaaDoorDoor
import Derived.Test.YtclfiaemjdflbaaDoorLift
import Derived.Test.YtclfiaemjdflbaaDoorCards
import Derived.Test.YtclfiaemjdflbaaDoorTie
import Derived.SevenTiedAt
namespace Go.Proofs.YtclfiaemjdflbaaDoor
open Go.ChangeShapes Go.WideShapes Go.ChangeAt Go.RowKit Go.Joins
set_option linter.unusedVariables false

set_option maxRecDepth 100000 in
theorem rationalCmp_lifted (os : Os) (started : os.Started) (H : Type) (enc : TypeId × Value → H) :
    ReturnsInHanded {} Tryd.checked os 3 .any (fun w args => (Rows.rationalCmpSpec.pre enc Tryd.prog Tryd.f3 [] false w args ∧ laidMetH Tryd.prog laidOrd w) ∧ sizedMet enc Tryd.prog Tryd.f3 (OpenSpec.ofChange Rows.rationalCmpSpec) false w args) (Rows.rationalCmpSpec.post enc Tryd.prog Tryd.f3 false true false false) := by
  refine returnsInHanded_of_change_and (C := Tryd.checked) (X := fun w _ => laidMetH Tryd.prog laidOrd w) (fun _ _ _ hh h => h.of_heap hh) own started (by kernel_rfl) Tryd.func3
    (ChangeSpec.witness_shaped (enc := enc) (C := Tryd.checked) (os := os) (X := fun w _ => laidMetH Tryd.prog laidOrd w) false (World.doorLaid Tryd.prog 81 os) #[.agg #[.int .i64 0, .int .i64 0], .agg #[.int .i64 0, .int .i64 0]] 8 rfl (World.shaped_of_RefB (by kernel_rfl) (by kernel_rfl)) (by kernel_rfl) (by kernel_rfl) (by kernel_rfl) (laidOrd_met os _)) ?_
  intro W base args ds gs before hval0 hW _ _ hL _
  have hval : ∀ (j : Nat) t v, Tryd.f3.params[j]? = some t → args[j]? = some v → Value.okWide Tryd.prog W .any base t v := hval0
  have hW' := hW
  obtain ⟨p, q, hA0, hV, _, _, _⟩ := hW
  have hA : DataW.TrodAll enc Tryd.prog W 0 (fun _ => true) true Tryd.f3.params.toList args.toList ds p := hA0
  rw [Tryd.params3] at hA hval
  obtain ⟨v0, vs0, d0, ds0, p0, q0, hargs, rfl, rfl, h0, r0⟩ := trodAll_cons hA
  obtain ⟨v1, vs1, d1, ds1, p1, q1, rfl, rfl, rfl, h1, r1⟩ := trodAll_cons r0
  obtain ⟨rfl, rfl, rfl⟩ := trodAll_nil r1
  obtain rfl : args = #[v0, v1] := by cases args; simp_all
  obtain ⟨rfl, rfl⟩ := trodVars_none hV
  obtain ⟨c00, c01, y00, y01, m0, rfl, rfl, rfl, hy00, hy01⟩ := open_agg2 Tryd.underlying23 (by kernel_rfl) (by kernel_rfl) (hval 0 23 v0 rfl rfl) h0
  obtain ⟨a00, e00, rfl, w00⟩ := DataW.trod_int Tryd.underlying2 hy00
  obtain ⟨a01, e01, rfl, w01⟩ := DataW.trod_int Tryd.underlying2 hy01
  simp at e00 e01; subst e00 e01
  obtain ⟨c10, c11, y10, y11, m1, rfl, rfl, rfl, hy10, hy11⟩ := open_agg2 Tryd.underlying23 (by kernel_rfl) (by kernel_rfl) (hval 1 23 v1 rfl rfl) h1
  obtain ⟨a10, e10, rfl, w10⟩ := DataW.trod_int Tryd.underlying2 hy10
  obtain ⟨a11, e11, rfl, w11⟩ := DataW.trod_int Tryd.underlying2 hy11
  simp at e10 e11; subst e10 e11
  have hO := ords_of_laid hL
  refine (lawCmp_walk a00 a01 a10 a11 W hO (i64_of_wf w00) (i64_of_wf w01) (i64_of_wf w10) (i64_of_wf w11)).mono fun e W' ⟨he, hg⟩ => ?_
  subst he
  exact ⟨_, rfl, law_post 4 laidOut (by kernel_rfl) rfl Tryd.underlying4 rfl rfl rfl rfl hW' hg⟩

theorem rationalCmp_holds : Rows.RationalCmpSaid :=
  OpenClaim.holds_of_wide 3 Tryd.f3 rfl rfl rfl rfl rfl rfl rfl ⟨rfl, rfl, rfl, rfl, rfl⟩ rfl rfl rfl rfl rfl (by kernel_rfl) Tryd.func3 (by kernel_rfl)
    (of_decide_eq_true (by kernel_rfl)) (by unfold Func.isWrapper; first | (rw [if_pos (by decide +kernel)]; kernel_rfl) | (rw [if_neg (by decide +kernel)]; exact ⟨rfl, rfl⟩))
    (fun os started H enc _ => rationalCmp_lifted os started H enc)
#print axioms rationalCmp_holds

theorem rationalCmpCard_holds : Rows.RationalCmpCardSaid :=
  Claim7.holds_tied_plain_at .later [] Rows.rationalCmpCard.laidKinds true Rows.rationalCmpCard.stood.harness true
    rationalCmp_holds (fun _ h => by cases h) (by kernel_rfl) (fun _ h => by cases h) rationalCmp_row_tie rfl ⟨rfl, rfl⟩ (by kernel_rfl) rfl
    (fun f fn hf hfn => by
      obtain rfl : f = 3 := Option.some.inj ((show Tryd.prog.funcNamed Rows.rationalCmpRow.func = some 3 by kernel_rfl).symm.trans hf) |>.symm
      obtain rfl : fn = Tryd.f3 := (Option.some.inj (Tryd.func3.symm.trans hfn)).symm
      exact ⟨by kernel_rfl, fun j t ht => by
        rw [Tryd.params3] at ht
        have hm : t ∈ [23] := by simpa using Array.mem_of_getElem? ht
        have hall : ([23].all fun u => !Tryd.prog.wantsStandIn u) = true := by kernel_rfl
        exact (show Tryd.prog.wantsStandIn t = false by simpa using List.all_eq_true.1 hall t hm)⟩)
    (by kernel_rfl)
#print axioms rationalCmpCard_holds

theorem cmV_lt {an ad bn bd : Int} (h : cmV an ad bn bd < 0) : an * bd < bn * ad := by
  unfold cmV at h
  by_cases hh : an * bd < bn * ad
  · exact hh
  · rw [if_neg hh] at h; split at h <;> omega
theorem cmV_bound (an ad bn bd : Int) : -1 ≤ cmV an ad bn bd ∧ cmV an ad bn bd ≤ 1 := by unfold cmV; split; exact ⟨by omega, by omega⟩; split <;> exact ⟨by omega, by omega⟩
theorem sg_ratio {x y X Y : Int} (hy : 0 < y) (hY : 0 < Y) (e : x * Y = X * y) : sg x = sg X := by
  have p1 : 0 < x → 0 < x * Y := fun h => Int.mul_pos h hY
  have n1 : x < 0 → x * Y < 0 := fun h => Int.mul_neg_of_neg_of_pos h hY
  have p2 : 0 < X → 0 < X * y := fun h => Int.mul_pos h hy
  have n2 : X < 0 → X * y < 0 := fun h => Int.mul_neg_of_neg_of_pos h hy
  have z1 : x = 0 → x * Y = 0 := fun h => by rw [h, Int.zero_mul]
  have z2 : X = 0 → X * y = 0 := fun h => by rw [h, Int.zero_mul]
  unfold sg
  rcases Int.lt_trichotomy x 0 with a | a | a <;> rcases Int.lt_trichotomy X 0 with b | b | b
  all_goals
    (try have := p1 a)
    (try have := n1 a)
    (try have := p2 b)
    (try have := n2 b)
    (try have := z1 a)
    (try have := z2 b)
    first
    | (exfalso; omega)
    | (rw [if_pos a, if_pos b]; done)
    | (rw [if_neg (show ¬ x < 0 by omega), if_pos a, if_neg (show ¬ X < 0 by omega), if_pos b])
    | (rw [if_neg (show ¬ x < 0 by omega), if_neg (show ¬ 0 < x by omega), if_neg (show ¬ X < 0 by omega), if_neg (show ¬ 0 < X by omega)])

theorem lawOrd_walk (an ad bn bd cn cd : Int) (w : World) (hO : Ords w) (hA : I64 an) (hB : I64 ad) (hC : I64 bn) (hD : I64 bd) (hE : I64 cn) (hF : I64 cd) :
    Calls Tryd.prog 4 #[.agg #[.int .i64 an, .int .i64 ad], .agg #[.int .i64 bn, .int .i64 bd], .agg #[.int .i64 cn, .int .i64 cd]] w fun e w' => e = .returned (.bool true) ∧ Gr w w' := by
  refine ord_core an ad bn bd cn cd _ _ _ _ _ _ _ w hO ?_ ?_ ?_ (fun w => sub_any an ad bn bd w hA hB hC hD) (fun w hO => cmp_any an ad bn bd w hO hA hB hC hD) (fun w hO => cmp_any bn bd an ad w hO hC hD hA hB) (fun w hO => cmp_any bn bd cn cd w hO hC hD hE hF) (fun w hO => cmp_any an ad cn cd w hO hA hB hE hF)
  · intro hz
    cases va : vB an ad
    · rw [va] at hz; exact absurd hz (by unfold arE; simp)
    · cases vb : vB bn bd
      · rw [va, vb] at hz; exact absurd hz (by unfold arE; simp)
      · rw [va, vb] at hz
        obtain ⟨a1, _, _⟩ := vB_inv va
        obtain ⟨b1, _, _⟩ := vB_inv vb
        have hp : 0 < ad * bd := Int.mul_pos (by omega) (by omega)
        obtain ⟨_, e, d, _⟩ := red_spec (X := an * bd + -bn * ad) hp hz
        rw [show (true && true) = true from rfl, if_pos rfl, if_pos rfl]
        have e1 : arN true (an * bd + -bn * ad) (ad * bd) = rN (an * bd + -bn * ad) (ad * bd) := rfl
        rw [e1, sg_ratio d hp e, cm_diff, cm_diff]
        refine ⟨rfl, ?_⟩
        have q1 : -bn * ad = -(bn * ad) := Int.neg_mul bn ad
        have q2 : -an * bd = -(an * bd) := Int.neg_mul an bd
        rw [q1, q2]
        unfold sg
        rcases Int.lt_trichotomy (an * bd) (bn * ad) with x | x | x
        · rw [if_neg (by omega), if_pos (by omega), if_pos (by omega)]; rfl
        · rw [if_neg (by omega), if_neg (by omega), if_neg (by omega), if_neg (by omega)]; rfl
        · rw [if_pos (by omega), if_neg (by omega), if_pos (by omega)]
  · intro h1 h3
    cases va : vB an ad
    · rw [va] at h1; simp at h1
    · cases vb : vB bn bd
      · rw [vb] at h3; simp at h3
      · cases vc : vB cn cd
        · rw [vc] at h3; simp at h3
        · rw [va, vb, show (true && true) = true from rfl, if_pos rfl] at h1
          rw [vb, vc, show (true && true) = true from rfl, if_pos rfl] at h3
          rw [show (true && true) = true from rfl, if_pos rfl]
          obtain ⟨a1, _, _⟩ := vB_inv va
          obtain ⟨b1, _, _⟩ := vB_inv vb
          obtain ⟨c1, _, _⟩ := vB_inv vc
          have l1 := cmV_lt h1
          have l3 := cmV_lt h3
          have m1 := Int.mul_lt_mul_of_pos_right l1 (show 0 < cd by omega)
          have m3 := Int.mul_lt_mul_of_pos_right l3 (show 0 < ad by omega)
          have hl : an * cd < cn * ad := by
            refine Int.lt_of_mul_lt_mul_left (a := bd) ?_ (by omega)
            have x1 : bd * (an * cd) = an * bd * cd := by grind
            have x2 : bd * (cn * ad) = cn * bd * ad := by grind
            have x3 : bn * ad * cd = bn * cd * ad := by grind
            omega
          unfold cmV
          rw [if_pos hl]
          omega
  · have := cmV_bound bn bd an ad
    split <;> exact ⟨by omega, by omega⟩

set_option maxRecDepth 100000 in
theorem rationalOrder_lifted (os : Os) (started : os.Started) (H : Type) (enc : TypeId × Value → H) :
    ReturnsInHanded {} Tryd.checked os 4 .any (fun w args => (Rows.rationalOrderSpec.pre enc Tryd.prog Tryd.f4 [] false w args ∧ laidMetH Tryd.prog laidOrd w) ∧ sizedMet enc Tryd.prog Tryd.f4 (OpenSpec.ofChange Rows.rationalOrderSpec) false w args) (Rows.rationalOrderSpec.post enc Tryd.prog Tryd.f4 false true false false) := by
  refine returnsInHanded_of_change_and (C := Tryd.checked) (X := fun w _ => laidMetH Tryd.prog laidOrd w) (fun _ _ _ hh h => h.of_heap hh) own started (by kernel_rfl) Tryd.func4
    (ChangeSpec.witness_shaped (enc := enc) (C := Tryd.checked) (os := os) (X := fun w _ => laidMetH Tryd.prog laidOrd w) false (World.doorLaid Tryd.prog 81 os) #[.agg #[.int .i64 0, .int .i64 0], .agg #[.int .i64 0, .int .i64 0], .agg #[.int .i64 0, .int .i64 0]] 8 rfl (World.shaped_of_RefB (by kernel_rfl) (by kernel_rfl)) (by kernel_rfl) (by kernel_rfl) (by kernel_rfl) (laidOrd_met os _)) ?_
  intro W base args ds gs before hval0 hW _ _ hL _
  have hval : ∀ (j : Nat) t v, Tryd.f4.params[j]? = some t → args[j]? = some v → Value.okWide Tryd.prog W .any base t v := hval0
  have hW' := hW
  obtain ⟨p, q, hA0, hV, _, _, _⟩ := hW
  have hA : DataW.TrodAll enc Tryd.prog W 0 (fun _ => true) true Tryd.f4.params.toList args.toList ds p := hA0
  rw [Tryd.params4] at hA hval
  obtain ⟨v0, vs0, d0, ds0, p0, q0, hargs, rfl, rfl, h0, r0⟩ := trodAll_cons hA
  obtain ⟨v1, vs1, d1, ds1, p1, q1, rfl, rfl, rfl, h1, r1⟩ := trodAll_cons r0
  obtain ⟨v2, vs2, d2, ds2, p2, q2, rfl, rfl, rfl, h2, r2⟩ := trodAll_cons r1
  obtain ⟨rfl, rfl, rfl⟩ := trodAll_nil r2
  obtain rfl : args = #[v0, v1, v2] := by cases args; simp_all
  obtain ⟨rfl, rfl⟩ := trodVars_none hV
  obtain ⟨c00, c01, y00, y01, m0, rfl, rfl, rfl, hy00, hy01⟩ := open_agg2 Tryd.underlying23 (by kernel_rfl) (by kernel_rfl) (hval 0 23 v0 rfl rfl) h0
  obtain ⟨a00, e00, rfl, w00⟩ := DataW.trod_int Tryd.underlying2 hy00
  obtain ⟨a01, e01, rfl, w01⟩ := DataW.trod_int Tryd.underlying2 hy01
  simp at e00 e01; subst e00 e01
  obtain ⟨c10, c11, y10, y11, m1, rfl, rfl, rfl, hy10, hy11⟩ := open_agg2 Tryd.underlying23 (by kernel_rfl) (by kernel_rfl) (hval 1 23 v1 rfl rfl) h1
  obtain ⟨a10, e10, rfl, w10⟩ := DataW.trod_int Tryd.underlying2 hy10
  obtain ⟨a11, e11, rfl, w11⟩ := DataW.trod_int Tryd.underlying2 hy11
  simp at e10 e11; subst e10 e11
  obtain ⟨c20, c21, y20, y21, m2, rfl, rfl, rfl, hy20, hy21⟩ := open_agg2 Tryd.underlying23 (by kernel_rfl) (by kernel_rfl) (hval 2 23 v2 rfl rfl) h2
  obtain ⟨a20, e20, rfl, w20⟩ := DataW.trod_int Tryd.underlying2 hy20
  obtain ⟨a21, e21, rfl, w21⟩ := DataW.trod_int Tryd.underlying2 hy21
  simp at e20 e21; subst e20 e21
  have hO := ords_of_laid hL
  refine (lawOrd_walk a00 a01 a10 a11 a20 a21 W hO (i64_of_wf w00) (i64_of_wf w01) (i64_of_wf w10) (i64_of_wf w11) (i64_of_wf w20) (i64_of_wf w21)).mono fun e W' ⟨he, hg⟩ => ?_
  subst he
  exact ⟨_, rfl, law_post 4 laidOut (by kernel_rfl) rfl Tryd.underlying4 rfl rfl rfl rfl hW' hg⟩

theorem rationalOrder_holds : Rows.RationalOrderSaid :=
  OpenClaim.holds_of_wide 4 Tryd.f4 rfl rfl rfl rfl rfl rfl rfl ⟨rfl, rfl, rfl, rfl, rfl⟩ rfl rfl rfl rfl rfl (by kernel_rfl) Tryd.func4 (by kernel_rfl)
    (of_decide_eq_true (by kernel_rfl)) (by unfold Func.isWrapper; first | (rw [if_pos (by decide +kernel)]; kernel_rfl) | (rw [if_neg (by decide +kernel)]; exact ⟨rfl, rfl⟩))
    (fun os started H enc _ => rationalOrder_lifted os started H enc)
#print axioms rationalOrder_holds

theorem rationalOrderCard_holds : Rows.RationalOrderCardSaid :=
  Claim7.holds_tied_plain_at .later [] Rows.rationalOrderCard.laidKinds true Rows.rationalOrderCard.stood.harness true
    rationalOrder_holds (fun _ h => by cases h) (by kernel_rfl) (fun _ h => by cases h) rationalOrder_row_tie rfl ⟨rfl, rfl⟩ (by kernel_rfl) rfl
    (fun f fn hf hfn => by
      obtain rfl : f = 4 := Option.some.inj ((show Tryd.prog.funcNamed Rows.rationalOrderRow.func = some 4 by kernel_rfl).symm.trans hf) |>.symm
      obtain rfl : fn = Tryd.f4 := (Option.some.inj (Tryd.func4.symm.trans hfn)).symm
      exact ⟨by kernel_rfl, fun j t ht => by
        rw [Tryd.params4] at ht
        have hm : t ∈ [23] := by simpa using Array.mem_of_getElem? ht
        have hall : ([23].all fun u => !Tryd.prog.wantsStandIn u) = true := by kernel_rfl
        exact (show Tryd.prog.wantsStandIn t = false by simpa using List.all_eq_true.1 hall t hm)⟩)
    (by kernel_rfl)
#print axioms rationalOrderCard_holds
end Go.Proofs.YtclfiaemjdflbaaDoor
