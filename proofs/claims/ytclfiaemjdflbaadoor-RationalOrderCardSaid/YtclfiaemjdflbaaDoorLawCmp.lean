/-
  Contract of Cmp of package rational for all arguments; walks of the laws RationalCmp and RationalOrder.
  Conditions: the variable orders holds what its text lays.
-/
import Derived.Test.YtclfiaemjdflbaaDoorWalkCm
import Derived.Test.YtclfiaemjdflbaaDoorWalkU
import Derived.Test.YtclfiaemjdflbaaDoorWalkI
namespace Go.Proofs.YtclfiaemjdflbaaDoor
open Go.RowKit
set_option linter.unusedSimpArgs false
set_option linter.unusedVariables false

set_option maxHeartbeats 1000000 in
theorem cmp_bad (an ad bn bd : Int) (b1 b2 : Bool) (w : World) (hb : b1 = false ∨ (b1 = true ∧ b2 = false))
    (HA : ∀ w, Calls Tryd.prog 17 #[.agg #[.int .i64 an, .int .i64 ad]] w fun e w' => e = .returned (.bool b1) ∧ Gr w w')
    (HB : ∀ w, Calls Tryd.prog 17 #[.agg #[.int .i64 bn, .int .i64 bd]] w fun e w' => e = .returned (.bool b2) ∧ Gr w w') :
    Calls Tryd.prog 8 #[.agg #[.int .i64 an, .int .i64 ad], .agg #[.int .i64 bn, .int .i64 bd]] w fun e w' => e = .returned (.int .i64 0) ∧ Gr w w' := by
  have HA := Lib.hid HA
  have HB := Lib.hid HB
  rcases hb with rfl | ⟨rfl, rfl⟩
  all_goals
    go_enter Tryd.func8, Tryd.ntmps8
    go_wp2_with (first
      | (go_at_call 17; with_reducible refine (HA.out _).mono ?_; rintro e w1 ⟨rfl, hg1⟩; obtain ⟨hc1, hf1⟩ := hg1.cells; have hz1 := hg1.size; (try simp at hz1); (try have hl1_0_0 : w.heap.size < w1.heap.size := by omega); (try have hm1_0_0 : w.heap.size ≤ w1.heap.size := by omega); (try have hl1_0_1 : w.heap.size + 1 < w1.heap.size := by omega); (try have hl1_0_2 : w.heap.size + 2 < w1.heap.size := by omega))
      | (go_at_call 17; with_reducible refine (HB.out _).mono ?_; rintro e w2 ⟨rfl, hg2⟩; obtain ⟨hc2, hf2⟩ := hg2.cells; have hz2 := hg2.size; (try simp at hz2); (try have hl2_0_0 : w.heap.size < w2.heap.size := by omega); (try have hm2_0_0 : w.heap.size ≤ w2.heap.size := by omega); (try have hl2_0_1 : w.heap.size + 1 < w2.heap.size := by omega); (try have hl2_0_2 : w.heap.size + 2 < w2.heap.size := by omega); (try have hl2_1_0 : w1.heap.size < w2.heap.size := by omega); (try have hm2_1_0 : w1.heap.size ≤ w2.heap.size := by omega); (try have hl2_1_1 : w1.heap.size + 1 < w2.heap.size := by omega); (try have hl2_1_2 : w1.heap.size + 2 < w2.heap.size := by omega)))
    go_ret
    exact ⟨rfl, (by repeat (first | with_reducible exact Gr.refl _ | with_reducible assumption | refine Gr.setCell ?_ (by first | omega | (simp; done) | (simp; omega)) _ | refine Gr.alloc ?_ _ | refine Gr.drew ?_ | refine Gr.drewN ?_ _ | refine Gr.trans ?_ (by with_reducible assumption)))⟩
theorem sg_cases (x : Int) : sg x = -1 ∨ sg x = 0 ∨ sg x = 1 := by unfold sg; split; exact .inl rfl; split; exact .inr (.inr rfl); exact .inr (.inl rfl)
theorem cm_table {an ad bn bd : Int} (a1 : 0 < ad) (b1 : 0 < bd) (h : ¬ (sg an = sg bn ∧ sg an ≠ 0)) : cmV an ad bn bd = tabR (sg an) (sg bn) := by
  have p1 : 0 < an → 0 < an * bd := fun h => Int.mul_pos h b1
  have p2 : 0 < bn → 0 < bn * ad := fun h => Int.mul_pos h a1
  have n1 : an < 0 → an * bd < 0 := fun h => Int.mul_neg_of_neg_of_pos h b1
  have n2 : bn < 0 → bn * ad < 0 := fun h => Int.mul_neg_of_neg_of_pos h a1
  have z1 : an = 0 → an * bd = 0 := fun h => by rw [h, Int.zero_mul]
  have z2 : bn = 0 → bn * ad = 0 := fun h => by rw [h, Int.zero_mul]
  have e1 : sg an = if an < 0 then -1 else if 0 < an then 1 else 0 := rfl
  have e2 : sg bn = if bn < 0 then -1 else if 0 < bn then 1 else 0 := rfl
  unfold cmV tabR
  rcases Int.lt_trichotomy an 0 with x | x | x <;> rcases Int.lt_trichotomy bn 0 with y | y | y
  all_goals
    (try have := p1 x)
    (try have := p2 y)
    (try have := n1 x)
    (try have := n2 y)
    (try have := z1 x)
    (try have := z2 y)
    have f1 : sg an = (if an < 0 then -1 else if 0 < an then 1 else 0) := rfl
    have f2 : sg bn = (if bn < 0 then -1 else if 0 < bn then 1 else 0) := rfl
    split at f1 <;> (try split at f1) <;> split at f2 <;> (try split at f2) <;> (try (exfalso; omega)) <;> rw [f1, f2] at h ⊢ <;> (try (exfalso; exact h ⟨rfl, by decide⟩))
    all_goals first
      | (rw [if_pos (by omega)]; rfl)
      | (rw [if_neg (by omega), if_pos (by omega)]; rfl)
      | (rw [if_neg (by omega), if_neg (by omega)]; rfl)
theorem cm_diff (an ad bn bd : Int) : cmV an ad bn bd = sg (an * bd + -bn * ad) := by
  have : -bn * ad = -(bn * ad) := Int.neg_mul bn ad
  unfold cmV sg
  rw [this]
  by_cases h : an * bd < bn * ad
  · rw [if_pos h, if_pos (by omega)]
  · by_cases h2 : an * bd = bn * ad
    · rw [if_neg h, if_pos h2, if_neg (by omega), if_neg (by omega)]
    · rw [if_neg h, if_neg h2, if_neg (by omega), if_pos (by omega)]
theorem cmp_any (an ad bn bd : Int) (w : World) (hO : Ords w) (hA : I64 an) (hB : I64 ad) (hC : I64 bn) (hD : I64 bd) :
    Calls Tryd.prog 8 #[.agg #[.int .i64 an, .int .i64 ad], .agg #[.int .i64 bn, .int .i64 bd]] w fun e w' => e = .returned (.int .i64 (if vB an ad && vB bn bd then cmV an ad bn bd else 0)) ∧ Gr w w' := by
  have HA := fun w => valid_any an ad w hA hB
  have HB := fun w => valid_any bn bd w hC hD
  cases va : vB an ad
  · rw [va] at HA
    rw [Bool.false_and]
    exact cmp_bad an ad bn bd false (vB bn bd) w (.inl rfl) HA HB
  · cases vb : vB bn bd
    · rw [va] at HA
      rw [vb] at HB
      rw [Bool.and_false]
      exact cmp_bad an ad bn bd true false w (.inr ⟨rfl, rfl⟩) HA HB
    · rw [va] at HA
      rw [vb] at HB
      rw [show (true && true) = true from rfl, if_pos rfl]
      obtain ⟨a1, a2, a3⟩ := vB_inv va
      obtain ⟨b1, b2, b3⟩ := vB_inv vb
      have F1 : Fit6 (an * bd) := fit6_mul _ _ hA.1 hA.2 hD.1 hD.2
      have F2 : Fit6 (-bn * ad) := fit6_mul _ _ (by have := hC.2; omega) (by omega) hB.1 hB.2
      obtain ⟨t, fr, hb⟩ := hO
      refine cmp_core an ad bn bd (sg an) (sg bn) _ (an * bd) (-bn * ad) (an * bd + -bn * ad) w ⟨t, fr, hb⟩ (lt_of_block hb) b2 hC.2 (sg_cases an) (sg_cases bn) ?_ HA HB (fun w => sign_any an w) (fun w => sign_any bn w)
        (fun w => product_any an bd w hA.1 hA.2 hD.1 hD.2) (fun w => product_any (-bn) ad w (by have := hC.2; omega) (by omega) hB.1 hB.2) (fun w => wplus_any _ _ w F1 F2) (fun w => wsign_any _ w (F1.plus F2))
      by_cases hs : sg an = sg bn ∧ sg an ≠ 0
      · exact .inr ⟨hs, cm_diff an ad bn bd⟩
      · exact .inl ⟨hs, cm_table (by omega) (by omega) hs⟩

set_option maxHeartbeats 1000000 in
theorem lawCmp_walk (an ad bn bd : Int) (w : World) (hO : Ords w) (hA : I64 an) (hB : I64 ad) (hC : I64 bn) (hD : I64 bd) :
    Calls Tryd.prog 3 #[.agg #[.int .i64 an, .int .i64 ad], .agg #[.int .i64 bn, .int .i64 bd]] w fun e w' => e = .returned (.bool true) ∧ Gr w w' := by
  have P := fun w hO => cmp_any an ad bn bd w hO hA hB hC hD
  have Q := fun w => rcmp_any an ad bn bd w hA hB hC hD
  generalize (if (vB an ad && vB bn bd) = true then cmV an ad bn bd else 0) = c at *
  have P := Lib.hid P
  have Q := Lib.hid Q
  have hO1 : Ords ((w.alloc (.cells #[.int .i64 an, .int .i64 ad] 23)).alloc (.cells #[.int .i64 bn, .int .i64 bd] 23)) := (hO.gr ((Gr.refl w).alloc _)).gr ((Gr.refl _).alloc _)
  clear hA hB hC hD hO
  go_enter Tryd.func3, Tryd.ntmps3
  go_wp2_with fail
  refine wp_region_gr (by kernel_rfl) (by kernel_rfl) (fun hq1 hq2 => ?_)
  repeat (first | go_big_quiet_skip | (go_big_quiet_want; go_big_quiet_op; first | go_big_quiet_on | (apply Exists.intro; refine ⟨fun _ => ?_, ?_⟩; (· (first | (go_at_call 7; with_reducible exact gr_call (awake_any _)) | (go_at_call 8; exact gr_call (P.out _ (hO1.gr (GW.h _)))) | (go_at_call 9; with_reducible exact gr_call (Q.out _)))); go_big_quiet_on)))
  refine wpQuiet_nil ?_
  clear hq1 hq2
  rintro w1 ⟨⟨_, hg1⟩, rfl⟩
  obtain ⟨hc1, hf1⟩ := hg1.cells
  have hz1 := hg1.size
  (try simp at hz1); (try have hl1_0_0 : w.heap.size < w1.heap.size := by omega); (try have hm1_0_0 : w.heap.size ≤ w1.heap.size := by omega); (try have hl1_0_1 : w.heap.size + 1 < w1.heap.size := by omega); (try have hl1_0_2 : w.heap.size + 2 < w1.heap.size := by omega)
  go_wp2_with fail
  go_ret
  exact ⟨ret_bool rfl, (by repeat (first | with_reducible exact Gr.refl _ | with_reducible assumption | refine Gr.setCell ?_ (by first | omega | (simp; done) | (simp; omega)) _ | refine Gr.alloc ?_ _ | refine Gr.drew ?_ | refine Gr.drewN ?_ _ | refine Gr.trans ?_ (by with_reducible assumption)))⟩
end Go.Proofs.YtclfiaemjdflbaaDoor
