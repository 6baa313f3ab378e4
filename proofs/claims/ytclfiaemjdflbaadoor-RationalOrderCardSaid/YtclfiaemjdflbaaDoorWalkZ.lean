/-
  Contracts of Sub and Div, of package rational and of the reference, for all arguments.
  Conditions: the arguments are integers of their kinds.
-/
import Derived.Test.YtclfiaemjdflbaaDoorWalkY2
namespace Go.Proofs.YtclfiaemjdflbaaDoor
open Go.RowKit
set_option linter.unusedSimpArgs false
set_option linter.unusedVariables false

theorem vB_i64 {n d : Int} (hn : I64 n) (h : vB n d = true) : I64 (-n) := by
  obtain ⟨_, h2, _⟩ := vB_inv h
  exact ⟨by have := hn.2; omega, by omega⟩
theorem vB_opp (n d : Int) (hn : I64 n) (h : vB n d = true) : vB (-n) d = true := by
  obtain ⟨h1, h2, h3⟩ := vB_inv h
  refine vB_true h1 (by have := hn.2; omega) ?_
  rw [← gc_mg, mg_opp, gc_mg]
  exact h3
theorem vB_flip {n d : Int} (hd : I64 d) (h : vB n d = true) (h0 : 0 < n) : vB d n = true := by
  obtain ⟨h1, h2, h3⟩ := vB_inv h
  exact vB_true (by omega) (by omega) (by rw [gc_comm]; exact h3)
theorem vB_flip_neg {n d : Int} (hd : I64 d) (h : vB n d = true) (h0 : n < 0) : vB (-d) (-n) = true := by
  obtain ⟨h1, h2, h3⟩ := vB_inv h
  refine vB_true (by omega) (by have := hd.2; omega) ?_
  rw [gc_comm]
  rw [gc_neg_neg]
  exact h3

set_option maxHeartbeats 2000000 in
theorem sub_core (an ad bn bd RN RD RE : Int) (w : World) (hA : I64 an) (hB : I64 ad) (hC : I64 bn) (hD : I64 bd) (hC' : -9223372036854775808 < bn)
    (HA : ∀ w, Calls Tryd.prog 17 #[.agg #[.int .i64 an, .int .i64 ad]] w fun e w' => e = .returned (.bool true) ∧ Gr w w')
    (HB : ∀ w, Calls Tryd.prog 17 #[.agg #[.int .i64 bn, .int .i64 bd]] w fun e w' => e = .returned (.bool true) ∧ Gr w w')
    (HS : ∀ w, Calls Tryd.prog 25 #[.agg #[.int .i64 an, .int .i64 ad], .agg #[.int .i64 (-bn), .int .i64 bd]] w fun e w' => e = .returned (.tuple #[.agg #[.int .i64 RN, .int .i64 RD], .int .i64 RE]) ∧ Gr w w') :
    Calls Tryd.prog 10 #[.agg #[.int .i64 an, .int .i64 ad], .agg #[.int .i64 bn, .int .i64 bd]] w fun e w' => e = .returned (.tuple #[.agg #[.int .i64 RN, .int .i64 RD], .int .i64 RE]) ∧ Gr w w' := by
  have HA := Lib.hid HA
  have HB := Lib.hid HB
  have HS := Lib.hid HS
  obtain ⟨c1, c2⟩ := hC
  go_enter Tryd.func10, Tryd.ntmps10
  go_wp2_with (first
    | (go_at_call 17; with_reducible refine (HA.out _).mono ?_; rintro e w1 ⟨rfl, hg1⟩; obtain ⟨hc1, hf1⟩ := hg1.cells; have hz1 := hg1.size; (try simp at hz1); (try have hl1_0_0 : w.heap.size < w1.heap.size := by omega); (try have hm1_0_0 : w.heap.size ≤ w1.heap.size := by omega); (try have hl1_0_1 : w.heap.size + 1 < w1.heap.size := by omega); (try have hl1_0_2 : w.heap.size + 2 < w1.heap.size := by omega))
    | (go_at_call 17; with_reducible refine (HB.out _).mono ?_; rintro e w2 ⟨rfl, hg2⟩; obtain ⟨hc2, hf2⟩ := hg2.cells; have hz2 := hg2.size; (try simp at hz2); (try have hl2_0_0 : w.heap.size < w2.heap.size := by omega); (try have hm2_0_0 : w.heap.size ≤ w2.heap.size := by omega); (try have hl2_0_1 : w.heap.size + 1 < w2.heap.size := by omega); (try have hl2_0_2 : w.heap.size + 2 < w2.heap.size := by omega); (try have hl2_1_0 : w1.heap.size < w2.heap.size := by omega); (try have hm2_1_0 : w1.heap.size ≤ w2.heap.size := by omega); (try have hl2_1_1 : w1.heap.size + 1 < w2.heap.size := by omega); (try have hl2_1_2 : w1.heap.size + 2 < w2.heap.size := by omega))
    | (go_at_call 25; with_reducible refine (HS.out _).mono ?_; rintro e w3 ⟨rfl, hg3⟩; obtain ⟨hc3, hf3⟩ := hg3.cells; have hz3 := hg3.size; (try simp at hz3); (try have hl3_0_0 : w.heap.size < w3.heap.size := by omega); (try have hm3_0_0 : w.heap.size ≤ w3.heap.size := by omega); (try have hl3_0_1 : w.heap.size + 1 < w3.heap.size := by omega); (try have hl3_0_2 : w.heap.size + 2 < w3.heap.size := by omega); (try have hl3_1_0 : w1.heap.size < w3.heap.size := by omega); (try have hm3_1_0 : w1.heap.size ≤ w3.heap.size := by omega); (try have hl3_1_1 : w1.heap.size + 1 < w3.heap.size := by omega); (try have hl3_1_2 : w1.heap.size + 2 < w3.heap.size := by omega); (try have hl3_2_0 : w2.heap.size < w3.heap.size := by omega); (try have hm3_2_0 : w2.heap.size ≤ w3.heap.size := by omega); (try have hl3_2_1 : w2.heap.size + 1 < w3.heap.size := by omega); (try have hl3_2_2 : w2.heap.size + 2 < w3.heap.size := by omega)))
  simp [bodyPost, results, Tryd.results10, go_sem, hc1, hf1, hc2, hf2, hc3, hf3, hl1_0_0, hl1_0_1, hl1_0_2, hl2_0_0, hl2_0_1, hl2_0_2, hl3_0_0, hl3_0_1, hl3_0_2]
  exact (by repeat (first | refine Gr.setCell ?_ (by first | omega | (simp; done) | (simp; omega)) _ | refine Gr.alloc ?_ _ | refine Gr.drew ?_ | refine Gr.drewN ?_ _ | with_reducible assumption | with_reducible exact Gr.refl _ | refine Gr.trans ?_ (by with_reducible assumption)))

theorem sub_any (an ad bn bd : Int) (w : World) (hA : I64 an) (hB : I64 ad) (hC : I64 bn) (hD : I64 bd) :
    Calls Tryd.prog 10 #[.agg #[.int .i64 an, .int .i64 ad], .agg #[.int .i64 bn, .int .i64 bd]] w fun e w' => e = .returned (arV (vB an ad && vB bn bd) (an * bd + -bn * ad) (ad * bd)) ∧ Gr w w' := by
  have HA := fun w => valid_any an ad w hA hB
  have HB := fun w => valid_any bn bd w hC hD
  cases va : vB an ad
  · rw [va] at HA
    rw [Bool.false_and, arV_no]
    exact arith_no_sub an ad bn bd false (vB bn bd) w (.inl rfl) HA HB
  · cases vb : vB bn bd
    · rw [va] at HA
      rw [vb] at HB
      rw [Bool.and_false, arV_no]
      exact arith_no_sub an ad bn bd true false w (.inr ⟨rfl, rfl⟩) HA HB
    · rw [va] at HA
      rw [vb] at HB
      rw [Bool.true_and, arV_yes]
      exact sub_core an ad bn bd _ _ _ w hA hB hC hD (vB_inv vb).2.1 HA HB (fun w => by
        have := add_any an ad (-bn) bd w hA hB (vB_i64 hC vb) hD
        rw [va, vB_opp bn bd hC vb, Bool.true_and, arV_yes] at this
        exact this)
end Go.Proofs.YtclfiaemjdflbaaDoor
