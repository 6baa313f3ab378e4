/-
  Contracts of Sub and Div, of package rational and of the reference, for all arguments.
  Conditions: the arguments are integers of their kinds.
-/
import Derived.Test.YtclfiaemjdflbaaWalkY
namespace Go.Proofs.Ytclfiaemjdflbaa
open Go.RowKit
set_option linter.unusedSimpArgs false
set_option linter.unusedVariables false

theorem vB_i64 {n d : Int} (hn : I64 n) (h : vB n d = true) : I64 (-n) := by
  obtain ⟨_, h2, _⟩ := vB_inv h
  exact ⟨by have := hn.2; omega, by omega⟩
theorem vB_opp (n d : Int) (hn : I64 n) (h : vB n d = true) : vB (-n) d = true := by
  obtain ⟨h1, h2, h3⟩ := vB_inv h
  refine vB_true h1 (by have := hn.2; omega) ?_
  rw [← gc_mg, mg_opp, gc_mg]
  exact h3
theorem vB_flip {n d : Int} (hd : I64 d) (h : vB n d = true) (h0 : 0 < n) : vB d n = true := by
  obtain ⟨h1, h2, h3⟩ := vB_inv h
  exact vB_true (by omega) (by omega) (by rw [gc_comm]; exact h3)
theorem vB_flip_neg {n d : Int} (hd : I64 d) (h : vB n d = true) (h0 : n < 0) : vB (-d) (-n) = true := by
  obtain ⟨h1, h2, h3⟩ := vB_inv h
  refine vB_true (by omega) (by have := hd.2; omega) ?_
  rw [gc_comm]
  rw [gc_neg_neg]
  exact h3

set_option maxHeartbeats 2000000 in
theorem sub_core (an ad bn bd RN RD RE : Int) (w : World) (hA : I64 an) (hB : I64 ad) (hC : I64 bn) (hD : I64 bd) (hC' : -9223372036854775808 < bn)
    (HA : ∀ w, Calls Try.prog 15 #[.agg #[.int .i64 an, .int .i64 ad]] w fun e w' => e = .returned (.bool true) ∧ Gr w w')
    (HB : ∀ w, Calls Try.prog 15 #[.agg #[.int .i64 bn, .int .i64 bd]] w fun e w' => e = .returned (.bool true) ∧ Gr w w')
    (HS : ∀ w, Calls Try.prog 31 #[.agg #[.int .i64 an, .int .i64 ad], .agg #[.int .i64 (-bn), .int .i64 bd]] w fun e w' => e = .returned (.tuple #[.agg #[.int .i64 RN, .int .i64 RD], .int .i64 RE]) ∧ Gr w w') :
    Calls Try.prog 32 #[.agg #[.int .i64 an, .int .i64 ad], .agg #[.int .i64 bn, .int .i64 bd]] w fun e w' => e = .returned (.tuple #[.agg #[.int .i64 RN, .int .i64 RD], .int .i64 RE]) ∧ Gr w w' := by
  have HA := Lib.hid HA
  have HB := Lib.hid HB
  have HS := Lib.hid HS
  obtain ⟨c1, c2⟩ := hC
  go_enter Try.func32, Try.ntmps32
  go_wp2_with (first
    | (go_at_call 15; with_reducible refine (HA.out _).mono ?_; rintro e w1 ⟨rfl, hg1⟩; obtain ⟨hc1, hf1⟩ := hg1.cells; have hz1 := hg1.size; (try simp at hz1); (try have hl1_0_0 : w.heap.size < w1.heap.size := by omega); (try have hm1_0_0 : w.heap.size ≤ w1.heap.size := by omega); (try have hl1_0_1 : w.heap.size + 1 < w1.heap.size := by omega); (try have hl1_0_2 : w.heap.size + 2 < w1.heap.size := by omega))
    | (go_at_call 15; with_reducible refine (HB.out _).mono ?_; rintro e w2 ⟨rfl, hg2⟩; obtain ⟨hc2, hf2⟩ := hg2.cells; have hz2 := hg2.size; (try simp at hz2); (try have hl2_0_0 : w.heap.size < w2.heap.size := by omega); (try have hm2_0_0 : w.heap.size ≤ w2.heap.size := by omega); (try have hl2_0_1 : w.heap.size + 1 < w2.heap.size := by omega); (try have hl2_0_2 : w.heap.size + 2 < w2.heap.size := by omega); (try have hl2_1_0 : w1.heap.size < w2.heap.size := by omega); (try have hm2_1_0 : w1.heap.size ≤ w2.heap.size := by omega); (try have hl2_1_1 : w1.heap.size + 1 < w2.heap.size := by omega); (try have hl2_1_2 : w1.heap.size + 2 < w2.heap.size := by omega))
    | (go_at_call 31; with_reducible refine (HS.out _).mono ?_; rintro e w3 ⟨rfl, hg3⟩; obtain ⟨hc3, hf3⟩ := hg3.cells; have hz3 := hg3.size; (try simp at hz3); (try have hl3_0_0 : w.heap.size < w3.heap.size := by omega); (try have hm3_0_0 : w.heap.size ≤ w3.heap.size := by omega); (try have hl3_0_1 : w.heap.size + 1 < w3.heap.size := by omega); (try have hl3_0_2 : w.heap.size + 2 < w3.heap.size := by omega); (try have hl3_1_0 : w1.heap.size < w3.heap.size := by omega); (try have hm3_1_0 : w1.heap.size ≤ w3.heap.size := by omega); (try have hl3_1_1 : w1.heap.size + 1 < w3.heap.size := by omega); (try have hl3_1_2 : w1.heap.size + 2 < w3.heap.size := by omega); (try have hl3_2_0 : w2.heap.size < w3.heap.size := by omega); (try have hm3_2_0 : w2.heap.size ≤ w3.heap.size := by omega); (try have hl3_2_1 : w2.heap.size + 1 < w3.heap.size := by omega); (try have hl3_2_2 : w2.heap.size + 2 < w3.heap.size := by omega)))
  simp [bodyPost, results, Try.results32, go_sem, hc1, hf1, hc2, hf2, hc3, hf3, hl1_0_0, hl1_0_1, hl1_0_2, hl2_0_0, hl2_0_1, hl2_0_2, hl3_0_0, hl3_0_1, hl3_0_2]
  exact (by repeat (first | refine Gr.setCell ?_ (by first | omega | (simp; done) | (simp; omega)) _ | refine Gr.alloc ?_ _ | refine Gr.drew ?_ | refine Gr.drewN ?_ _ | with_reducible assumption | with_reducible exact Gr.refl _ | refine Gr.trans ?_ (by with_reducible assumption)))

set_option maxHeartbeats 2000000 in
theorem rneg_any (n d : Int) (w : World) (h : -9223372036854775808 < n) (h2 : n ≤ 9223372036854775807) :
    Calls Try.prog 29 #[.agg #[.int .i64 n, .int .i64 d]] w fun e w' => e = .returned (.agg #[.int .i64 (-n), .int .i64 d]) ∧ Gr w w' := by
  go_enter Try.func29, Try.ntmps29
  go_wp2
  simp [bodyPost, results, Try.results29, go_sem]
  exact (by repeat (first | refine Gr.setCell ?_ (by first | omega | (simp; done) | (simp; omega)) _ | refine Gr.alloc ?_ _ | refine Gr.drew ?_ | refine Gr.drewN ?_ _ | with_reducible assumption | with_reducible exact Gr.refl _ | refine Gr.trans ?_ (by with_reducible assumption)))

set_option maxHeartbeats 2000000 in
theorem rsub_core (an ad bn bd RN RD RE : Int) (w : World) (hA : I64 an) (hB : I64 ad) (hC : I64 bn) (hD : I64 bd) (hC' : -9223372036854775808 < bn)
    (HB : ∀ w, Calls Try.prog 16 #[.agg #[.int .i64 bn, .int .i64 bd]] w fun e w' => e = .returned (.bool true) ∧ Gr w w')
    (HS : ∀ w, Calls Try.prog 28 #[.agg #[.int .i64 an, .int .i64 ad], .agg #[.int .i64 (-bn), .int .i64 bd]] w fun e w' => e = .returned (.tuple #[.agg #[.int .i64 RN, .int .i64 RD], .int .i64 RE]) ∧ Gr w w') :
    Calls Try.prog 33 #[.agg #[.int .i64 an, .int .i64 ad], .agg #[.int .i64 bn, .int .i64 bd]] w fun e w' => e = .returned (.tuple #[.agg #[.int .i64 RN, .int .i64 RD], .int .i64 RE]) ∧ Gr w w' := by
  have HB := Lib.hid HB
  have HS := Lib.hid HS
  have HN := Lib.hid (fun w => rneg_any bn bd w hC' hC.2)
  obtain ⟨c1, c2⟩ := hC
  go_enter Try.func33, Try.ntmps33
  go_wp2_with (go_at_call 16; with_reducible refine (HB.out _).mono ?_; rintro e w1 ⟨rfl, hg1⟩; obtain ⟨hc1, hf1⟩ := hg1.cells; have hz1 := hg1.size; (try simp at hz1); (try have hl1_0_0 : w.heap.size < w1.heap.size := by omega); (try have hm1_0_0 : w.heap.size ≤ w1.heap.size := by omega); (try have hl1_0_1 : w.heap.size + 1 < w1.heap.size := by omega); (try have hl1_0_2 : w.heap.size + 2 < w1.heap.size := by omega))
  refine wp_region_gr_tail 6 (by kernel_rfl) (by kernel_rfl) (fun hq1 hq2 => ?_)
  simp only [List.take_succ_cons, List.take_zero, List.drop_succ_cons, List.drop_zero]
  repeat (first | go_big_quiet_skip | (go_big_quiet_want; go_big_quiet_op; first | go_big_quiet_on | (apply Exists.intro; refine ⟨fun _ => ?_, ?_⟩; (· (first | (go_at_call 29; with_reducible exact gr_call (HN.out _)) | (go_at_call 28; with_reducible exact gr_call (HS.out _)))); go_big_quiet_on)))
  refine wpQuiet_nil ?_
  clear hq1 hq2
  rintro w2 ⟨⟨_, hg2⟩, rfl⟩
  obtain ⟨hc2, hf2⟩ := hg2.cells
  have hz2 := hg2.size
  (try simp at hz2); (try have hl2_0_0 : w.heap.size < w2.heap.size := by omega); (try have hm2_0_0 : w.heap.size ≤ w2.heap.size := by omega); (try have hl2_0_1 : w.heap.size + 1 < w2.heap.size := by omega); (try have hl2_0_2 : w.heap.size + 2 < w2.heap.size := by omega); (try have hl2_1_0 : w1.heap.size < w2.heap.size := by omega); (try have hm2_1_0 : w1.heap.size ≤ w2.heap.size := by omega); (try have hl2_1_1 : w1.heap.size + 1 < w2.heap.size := by omega); (try have hl2_1_2 : w1.heap.size + 2 < w2.heap.size := by omega)
  go_wp2_with fail
  simp [bodyPost, results, Try.results33, go_sem, hc1, hf1, hc2, hf2, hl1_0_0, hl1_0_1, hl1_0_2, hl2_0_0, hl2_0_1, hl2_0_2]
  exact (by repeat (first | refine Gr.setCell ?_ (by first | omega | (simp; done) | (simp; omega)) _ | refine Gr.alloc ?_ _ | refine Gr.drew ?_ | refine Gr.drewN ?_ _ | with_reducible assumption | with_reducible exact Gr.refl _ | refine Gr.trans ?_ (by with_reducible assumption)))

set_option maxHeartbeats 2000000 in
theorem rsub_no (an ad bn bd : Int) (w : World)
    (HB : ∀ w, Calls Try.prog 16 #[.agg #[.int .i64 bn, .int .i64 bd]] w fun e w' => e = .returned (.bool false) ∧ Gr w w') :
    Calls Try.prog 33 #[.agg #[.int .i64 an, .int .i64 ad], .agg #[.int .i64 bn, .int .i64 bd]] w fun e w' => e = .returned (.tuple #[.agg #[.int .i64 0, .int .i64 0], .int .i64 1]) ∧ Gr w w' := by
  have HB := Lib.hid HB
  go_enter Try.func33, Try.ntmps33
  go_wp2_with (go_at_call 16; with_reducible refine (HB.out _).mono ?_; rintro e w1 ⟨rfl, hg1⟩; obtain ⟨hc1, hf1⟩ := hg1.cells; have hz1 := hg1.size; (try simp at hz1); (try have hl1_0_0 : w.heap.size < w1.heap.size := by omega); (try have hm1_0_0 : w.heap.size ≤ w1.heap.size := by omega); (try have hl1_0_1 : w.heap.size + 1 < w1.heap.size := by omega); (try have hl1_0_2 : w.heap.size + 2 < w1.heap.size := by omega))
  simp [bodyPost, results, Try.results33, go_sem, hc1, hf1, hl1_0_0, hl1_0_1, hl1_0_2]
  exact (by repeat (first | refine Gr.setCell ?_ (by first | omega | (simp; done) | (simp; omega)) _ | refine Gr.alloc ?_ _ | refine Gr.drew ?_ | refine Gr.drewN ?_ _ | with_reducible assumption | with_reducible exact Gr.refl _ | refine Gr.trans ?_ (by with_reducible assumption)))

set_option maxHeartbeats 2000000 in
theorem div_zero (an ad bd : Int) (w : World)
    (HA : ∀ w, Calls Try.prog 15 #[.agg #[.int .i64 an, .int .i64 ad]] w fun e w' => e = .returned (.bool true) ∧ Gr w w')
    (HB : ∀ w, Calls Try.prog 15 #[.agg #[.int .i64 0, .int .i64 bd]] w fun e w' => e = .returned (.bool true) ∧ Gr w w') :
    Calls Try.prog 35 #[.agg #[.int .i64 an, .int .i64 ad], .agg #[.int .i64 0, .int .i64 bd]] w fun e w' => e = .returned (.tuple #[.agg #[.int .i64 0, .int .i64 0], .int .i64 1]) ∧ Gr w w' := by
  have HA := Lib.hid HA
  have HB := Lib.hid HB
  go_enter Try.func35, Try.ntmps35
  go_wp2_with (first
    | (go_at_call 15; with_reducible refine (HA.out _).mono ?_; rintro e w1 ⟨rfl, hg1⟩; obtain ⟨hc1, hf1⟩ := hg1.cells; have hz1 := hg1.size; (try simp at hz1); (try have hl1_0_0 : w.heap.size < w1.heap.size := by omega); (try have hm1_0_0 : w.heap.size ≤ w1.heap.size := by omega); (try have hl1_0_1 : w.heap.size + 1 < w1.heap.size := by omega); (try have hl1_0_2 : w.heap.size + 2 < w1.heap.size := by omega))
    | (go_at_call 15; with_reducible refine (HB.out _).mono ?_; rintro e w2 ⟨rfl, hg2⟩; obtain ⟨hc2, hf2⟩ := hg2.cells; have hz2 := hg2.size; (try simp at hz2); (try have hl2_0_0 : w.heap.size < w2.heap.size := by omega); (try have hm2_0_0 : w.heap.size ≤ w2.heap.size := by omega); (try have hl2_0_1 : w.heap.size + 1 < w2.heap.size := by omega); (try have hl2_0_2 : w.heap.size + 2 < w2.heap.size := by omega); (try have hl2_1_0 : w1.heap.size < w2.heap.size := by omega); (try have hm2_1_0 : w1.heap.size ≤ w2.heap.size := by omega); (try have hl2_1_1 : w1.heap.size + 1 < w2.heap.size := by omega); (try have hl2_1_2 : w1.heap.size + 2 < w2.heap.size := by omega)))
  simp [bodyPost, results, Try.results35, go_sem, hc1, hf1, hc2, hf2, hl1_0_0, hl1_0_1, hl1_0_2, hl2_0_0, hl2_0_1, hl2_0_2]
  exact (by repeat (first | refine Gr.setCell ?_ (by first | omega | (simp; done) | (simp; omega)) _ | refine Gr.alloc ?_ _ | refine Gr.drew ?_ | refine Gr.drewN ?_ _ | with_reducible assumption | with_reducible exact Gr.refl _ | refine Gr.trans ?_ (by with_reducible assumption)))
set_option maxHeartbeats 2000000 in
theorem div_pos (an ad bn bd RN RD RE : Int) (w : World) (hp : 0 < bn) (hC : I64 bn) (hD : I64 bd)
    (HA : ∀ w, Calls Try.prog 15 #[.agg #[.int .i64 an, .int .i64 ad]] w fun e w' => e = .returned (.bool true) ∧ Gr w w')
    (HB : ∀ w, Calls Try.prog 15 #[.agg #[.int .i64 bn, .int .i64 bd]] w fun e w' => e = .returned (.bool true) ∧ Gr w w')
    (HM : ∀ w, Calls Try.prog 34 #[.agg #[.int .i64 an, .int .i64 ad], .agg #[.int .i64 bd, .int .i64 bn]] w fun e w' => e = .returned (.tuple #[.agg #[.int .i64 RN, .int .i64 RD], .int .i64 RE]) ∧ Gr w w') :
    Calls Try.prog 35 #[.agg #[.int .i64 an, .int .i64 ad], .agg #[.int .i64 bn, .int .i64 bd]] w fun e w' => e = .returned (.tuple #[.agg #[.int .i64 RN, .int .i64 RD], .int .i64 RE]) ∧ Gr w w' := by
  have HA := Lib.hid HA
  have HB := Lib.hid HB
  have HM := Lib.hid HM
  have q : (bn == 0) = false := by simp; omega
  have q2 : decide (bn < 0) = false := decide_eq_false (by omega)
  go_enter Try.func35, Try.ntmps35
  go_wp2_with (first
    | (go_at_call 15; with_reducible refine (HA.out _).mono ?_; rintro e w1 ⟨rfl, hg1⟩; obtain ⟨hc1, hf1⟩ := hg1.cells; have hz1 := hg1.size; (try simp at hz1); (try have hl1_0_0 : w.heap.size < w1.heap.size := by omega); (try have hm1_0_0 : w.heap.size ≤ w1.heap.size := by omega); (try have hl1_0_1 : w.heap.size + 1 < w1.heap.size := by omega); (try have hl1_0_2 : w.heap.size + 2 < w1.heap.size := by omega))
    | (go_at_call 15; with_reducible refine (HB.out _).mono ?_; rintro e w2 ⟨rfl, hg2⟩; obtain ⟨hc2, hf2⟩ := hg2.cells; have hz2 := hg2.size; (try simp at hz2); (try have hl2_0_0 : w.heap.size < w2.heap.size := by omega); (try have hm2_0_0 : w.heap.size ≤ w2.heap.size := by omega); (try have hl2_0_1 : w.heap.size + 1 < w2.heap.size := by omega); (try have hl2_0_2 : w.heap.size + 2 < w2.heap.size := by omega); (try have hl2_1_0 : w1.heap.size < w2.heap.size := by omega); (try have hm2_1_0 : w1.heap.size ≤ w2.heap.size := by omega); (try have hl2_1_1 : w1.heap.size + 1 < w2.heap.size := by omega); (try have hl2_1_2 : w1.heap.size + 2 < w2.heap.size := by omega))
    | (go_at_call 34; with_reducible refine (HM.out _).mono ?_; rintro e w3 ⟨rfl, hg3⟩; obtain ⟨hc3, hf3⟩ := hg3.cells; have hz3 := hg3.size; (try simp at hz3); (try have hl3_0_0 : w.heap.size < w3.heap.size := by omega); (try have hm3_0_0 : w.heap.size ≤ w3.heap.size := by omega); (try have hl3_0_1 : w.heap.size + 1 < w3.heap.size := by omega); (try have hl3_0_2 : w.heap.size + 2 < w3.heap.size := by omega); (try have hl3_1_0 : w1.heap.size < w3.heap.size := by omega); (try have hm3_1_0 : w1.heap.size ≤ w3.heap.size := by omega); (try have hl3_1_1 : w1.heap.size + 1 < w3.heap.size := by omega); (try have hl3_1_2 : w1.heap.size + 2 < w3.heap.size := by omega); (try have hl3_2_0 : w2.heap.size < w3.heap.size := by omega); (try have hm3_2_0 : w2.heap.size ≤ w3.heap.size := by omega); (try have hl3_2_1 : w2.heap.size + 1 < w3.heap.size := by omega); (try have hl3_2_2 : w2.heap.size + 2 < w3.heap.size := by omega)))
  simp [bodyPost, results, Try.results35, go_sem, hc1, hf1, hc2, hf2, hc3, hf3, hl1_0_0, hl1_0_1, hl1_0_2, hl2_0_0, hl2_0_1, hl2_0_2, hl3_0_0, hl3_0_1, hl3_0_2]
  exact (by repeat (first | refine Gr.setCell ?_ (by first | omega | (simp; done) | (simp; omega)) _ | refine Gr.alloc ?_ _ | refine Gr.drew ?_ | refine Gr.drewN ?_ _ | with_reducible assumption | with_reducible exact Gr.refl _ | refine Gr.trans ?_ (by with_reducible assumption)))
set_option maxHeartbeats 2000000 in
theorem div_neg (an ad bn bd RN RD RE : Int) (w : World) (hp : bn < 0) (h1 : -9223372036854775808 < bn) (h2 : 1 ≤ bd) (h3 : bd ≤ 9223372036854775807)
    (HA : ∀ w, Calls Try.prog 15 #[.agg #[.int .i64 an, .int .i64 ad]] w fun e w' => e = .returned (.bool true) ∧ Gr w w')
    (HB : ∀ w, Calls Try.prog 15 #[.agg #[.int .i64 bn, .int .i64 bd]] w fun e w' => e = .returned (.bool true) ∧ Gr w w')
    (HM : ∀ w, Calls Try.prog 34 #[.agg #[.int .i64 an, .int .i64 ad], .agg #[.int .i64 (-bd), .int .i64 (-bn)]] w fun e w' => e = .returned (.tuple #[.agg #[.int .i64 RN, .int .i64 RD], .int .i64 RE]) ∧ Gr w w') :
    Calls Try.prog 35 #[.agg #[.int .i64 an, .int .i64 ad], .agg #[.int .i64 bn, .int .i64 bd]] w fun e w' => e = .returned (.tuple #[.agg #[.int .i64 RN, .int .i64 RD], .int .i64 RE]) ∧ Gr w w' := by
  have HA := Lib.hid HA
  have HB := Lib.hid HB
  have HM := Lib.hid HM
  have q : (bn == 0) = false := by simp; omega
  have q2 : decide (bn < 0) = true := decide_eq_true (by omega)
  go_enter Try.func35, Try.ntmps35
  go_wp2_with (first
    | (go_at_call 15; with_reducible refine (HA.out _).mono ?_; rintro e w1 ⟨rfl, hg1⟩; obtain ⟨hc1, hf1⟩ := hg1.cells; have hz1 := hg1.size; (try simp at hz1); (try have hl1_0_0 : w.heap.size < w1.heap.size := by omega); (try have hm1_0_0 : w.heap.size ≤ w1.heap.size := by omega); (try have hl1_0_1 : w.heap.size + 1 < w1.heap.size := by omega); (try have hl1_0_2 : w.heap.size + 2 < w1.heap.size := by omega))
    | (go_at_call 15; with_reducible refine (HB.out _).mono ?_; rintro e w2 ⟨rfl, hg2⟩; obtain ⟨hc2, hf2⟩ := hg2.cells; have hz2 := hg2.size; (try simp at hz2); (try have hl2_0_0 : w.heap.size < w2.heap.size := by omega); (try have hm2_0_0 : w.heap.size ≤ w2.heap.size := by omega); (try have hl2_0_1 : w.heap.size + 1 < w2.heap.size := by omega); (try have hl2_0_2 : w.heap.size + 2 < w2.heap.size := by omega); (try have hl2_1_0 : w1.heap.size < w2.heap.size := by omega); (try have hm2_1_0 : w1.heap.size ≤ w2.heap.size := by omega); (try have hl2_1_1 : w1.heap.size + 1 < w2.heap.size := by omega); (try have hl2_1_2 : w1.heap.size + 2 < w2.heap.size := by omega))
    | (go_at_call 34; with_reducible refine (HM.out _).mono ?_; rintro e w3 ⟨rfl, hg3⟩; obtain ⟨hc3, hf3⟩ := hg3.cells; have hz3 := hg3.size; (try simp at hz3); (try have hl3_0_0 : w.heap.size < w3.heap.size := by omega); (try have hm3_0_0 : w.heap.size ≤ w3.heap.size := by omega); (try have hl3_0_1 : w.heap.size + 1 < w3.heap.size := by omega); (try have hl3_0_2 : w.heap.size + 2 < w3.heap.size := by omega); (try have hl3_1_0 : w1.heap.size < w3.heap.size := by omega); (try have hm3_1_0 : w1.heap.size ≤ w3.heap.size := by omega); (try have hl3_1_1 : w1.heap.size + 1 < w3.heap.size := by omega); (try have hl3_1_2 : w1.heap.size + 2 < w3.heap.size := by omega); (try have hl3_2_0 : w2.heap.size < w3.heap.size := by omega); (try have hm3_2_0 : w2.heap.size ≤ w3.heap.size := by omega); (try have hl3_2_1 : w2.heap.size + 1 < w3.heap.size := by omega); (try have hl3_2_2 : w2.heap.size + 2 < w3.heap.size := by omega)))
  simp [bodyPost, results, Try.results35, go_sem, hc1, hf1, hc2, hf2, hc3, hf3, hl1_0_0, hl1_0_1, hl1_0_2, hl2_0_0, hl2_0_1, hl2_0_2, hl3_0_0, hl3_0_1, hl3_0_2]
  exact (by repeat (first | refine Gr.setCell ?_ (by first | omega | (simp; done) | (simp; omega)) _ | refine Gr.alloc ?_ _ | refine Gr.drew ?_ | refine Gr.drewN ?_ _ | with_reducible assumption | with_reducible exact Gr.refl _ | refine Gr.trans ?_ (by with_reducible assumption)))
set_option maxHeartbeats 2000000 in
theorem rdiv_zero (an ad bd : Int) (w : World)
    (HA : ∀ w, Calls Try.prog 16 #[.agg #[.int .i64 an, .int .i64 ad]] w fun e w' => e = .returned (.bool true) ∧ Gr w w')
    (HB : ∀ w, Calls Try.prog 16 #[.agg #[.int .i64 0, .int .i64 bd]] w fun e w' => e = .returned (.bool true) ∧ Gr w w') :
    Calls Try.prog 27 #[.agg #[.int .i64 an, .int .i64 ad], .agg #[.int .i64 0, .int .i64 bd]] w fun e w' => e = .returned (.tuple #[.agg #[.int .i64 0, .int .i64 0], .int .i64 1]) ∧ Gr w w' := by
  have HA := Lib.hid HA
  have HB := Lib.hid HB
  go_enter Try.func27, Try.ntmps27
  go_wp2_with (first
    | (go_at_call 16; with_reducible refine (HA.out _).mono ?_; rintro e w1 ⟨rfl, hg1⟩; obtain ⟨hc1, hf1⟩ := hg1.cells; have hz1 := hg1.size; (try simp at hz1); (try have hl1_0_0 : w.heap.size < w1.heap.size := by omega); (try have hm1_0_0 : w.heap.size ≤ w1.heap.size := by omega); (try have hl1_0_1 : w.heap.size + 1 < w1.heap.size := by omega); (try have hl1_0_2 : w.heap.size + 2 < w1.heap.size := by omega))
    | (go_at_call 16; with_reducible refine (HB.out _).mono ?_; rintro e w2 ⟨rfl, hg2⟩; obtain ⟨hc2, hf2⟩ := hg2.cells; have hz2 := hg2.size; (try simp at hz2); (try have hl2_0_0 : w.heap.size < w2.heap.size := by omega); (try have hm2_0_0 : w.heap.size ≤ w2.heap.size := by omega); (try have hl2_0_1 : w.heap.size + 1 < w2.heap.size := by omega); (try have hl2_0_2 : w.heap.size + 2 < w2.heap.size := by omega); (try have hl2_1_0 : w1.heap.size < w2.heap.size := by omega); (try have hm2_1_0 : w1.heap.size ≤ w2.heap.size := by omega); (try have hl2_1_1 : w1.heap.size + 1 < w2.heap.size := by omega); (try have hl2_1_2 : w1.heap.size + 2 < w2.heap.size := by omega)))
  simp [bodyPost, results, Try.results27, go_sem, hc1, hf1, hc2, hf2, hl1_0_0, hl1_0_1, hl1_0_2, hl2_0_0, hl2_0_1, hl2_0_2]
  exact (by repeat (first | refine Gr.setCell ?_ (by first | omega | (simp; done) | (simp; omega)) _ | refine Gr.alloc ?_ _ | refine Gr.drew ?_ | refine Gr.drewN ?_ _ | with_reducible assumption | with_reducible exact Gr.refl _ | refine Gr.trans ?_ (by with_reducible assumption)))
set_option maxHeartbeats 2000000 in
theorem rdiv_pos (an ad bn bd RN RD RE : Int) (w : World) (hp : 0 < bn) (hC : I64 bn) (hD : I64 bd)
    (HA : ∀ w, Calls Try.prog 16 #[.agg #[.int .i64 an, .int .i64 ad]] w fun e w' => e = .returned (.bool true) ∧ Gr w w')
    (HB : ∀ w, Calls Try.prog 16 #[.agg #[.int .i64 bn, .int .i64 bd]] w fun e w' => e = .returned (.bool true) ∧ Gr w w')
    (HM : ∀ w, Calls Try.prog 26 #[.agg #[.int .i64 an, .int .i64 ad], .agg #[.int .i64 bd, .int .i64 bn]] w fun e w' => e = .returned (.tuple #[.agg #[.int .i64 RN, .int .i64 RD], .int .i64 RE]) ∧ Gr w w') :
    Calls Try.prog 27 #[.agg #[.int .i64 an, .int .i64 ad], .agg #[.int .i64 bn, .int .i64 bd]] w fun e w' => e = .returned (.tuple #[.agg #[.int .i64 RN, .int .i64 RD], .int .i64 RE]) ∧ Gr w w' := by
  have HA := Lib.hid HA
  have HB := Lib.hid HB
  have HM := Lib.hid HM
  have q : (bn == 0) = false := by simp; omega
  have q2 : decide (bn < 0) = false := decide_eq_false (by omega)
  go_enter Try.func27, Try.ntmps27
  go_wp2_with (first
    | (go_at_call 16; with_reducible refine (HA.out _).mono ?_; rintro e w1 ⟨rfl, hg1⟩; obtain ⟨hc1, hf1⟩ := hg1.cells; have hz1 := hg1.size; (try simp at hz1); (try have hl1_0_0 : w.heap.size < w1.heap.size := by omega); (try have hm1_0_0 : w.heap.size ≤ w1.heap.size := by omega); (try have hl1_0_1 : w.heap.size + 1 < w1.heap.size := by omega); (try have hl1_0_2 : w.heap.size + 2 < w1.heap.size := by omega))
    | (go_at_call 16; with_reducible refine (HB.out _).mono ?_; rintro e w2 ⟨rfl, hg2⟩; obtain ⟨hc2, hf2⟩ := hg2.cells; have hz2 := hg2.size; (try simp at hz2); (try have hl2_0_0 : w.heap.size < w2.heap.size := by omega); (try have hm2_0_0 : w.heap.size ≤ w2.heap.size := by omega); (try have hl2_0_1 : w.heap.size + 1 < w2.heap.size := by omega); (try have hl2_0_2 : w.heap.size + 2 < w2.heap.size := by omega); (try have hl2_1_0 : w1.heap.size < w2.heap.size := by omega); (try have hm2_1_0 : w1.heap.size ≤ w2.heap.size := by omega); (try have hl2_1_1 : w1.heap.size + 1 < w2.heap.size := by omega); (try have hl2_1_2 : w1.heap.size + 2 < w2.heap.size := by omega))
    | (go_at_call 26; with_reducible refine (HM.out _).mono ?_; rintro e w3 ⟨rfl, hg3⟩; obtain ⟨hc3, hf3⟩ := hg3.cells; have hz3 := hg3.size; (try simp at hz3); (try have hl3_0_0 : w.heap.size < w3.heap.size := by omega); (try have hm3_0_0 : w.heap.size ≤ w3.heap.size := by omega); (try have hl3_0_1 : w.heap.size + 1 < w3.heap.size := by omega); (try have hl3_0_2 : w.heap.size + 2 < w3.heap.size := by omega); (try have hl3_1_0 : w1.heap.size < w3.heap.size := by omega); (try have hm3_1_0 : w1.heap.size ≤ w3.heap.size := by omega); (try have hl3_1_1 : w1.heap.size + 1 < w3.heap.size := by omega); (try have hl3_1_2 : w1.heap.size + 2 < w3.heap.size := by omega); (try have hl3_2_0 : w2.heap.size < w3.heap.size := by omega); (try have hm3_2_0 : w2.heap.size ≤ w3.heap.size := by omega); (try have hl3_2_1 : w2.heap.size + 1 < w3.heap.size := by omega); (try have hl3_2_2 : w2.heap.size + 2 < w3.heap.size := by omega)))
  simp [bodyPost, results, Try.results27, go_sem, hc1, hf1, hc2, hf2, hc3, hf3, hl1_0_0, hl1_0_1, hl1_0_2, hl2_0_0, hl2_0_1, hl2_0_2, hl3_0_0, hl3_0_1, hl3_0_2]
  exact (by repeat (first | refine Gr.setCell ?_ (by first | omega | (simp; done) | (simp; omega)) _ | refine Gr.alloc ?_ _ | refine Gr.drew ?_ | refine Gr.drewN ?_ _ | with_reducible assumption | with_reducible exact Gr.refl _ | refine Gr.trans ?_ (by with_reducible assumption)))
set_option maxHeartbeats 2000000 in
theorem rdiv_neg (an ad bn bd RN RD RE : Int) (w : World) (hp : bn < 0) (h1 : -9223372036854775808 < bn) (h2 : 1 ≤ bd) (h3 : bd ≤ 9223372036854775807)
    (HA : ∀ w, Calls Try.prog 16 #[.agg #[.int .i64 an, .int .i64 ad]] w fun e w' => e = .returned (.bool true) ∧ Gr w w')
    (HB : ∀ w, Calls Try.prog 16 #[.agg #[.int .i64 bn, .int .i64 bd]] w fun e w' => e = .returned (.bool true) ∧ Gr w w')
    (HM : ∀ w, Calls Try.prog 26 #[.agg #[.int .i64 an, .int .i64 ad], .agg #[.int .i64 (-bd), .int .i64 (-bn)]] w fun e w' => e = .returned (.tuple #[.agg #[.int .i64 RN, .int .i64 RD], .int .i64 RE]) ∧ Gr w w') :
    Calls Try.prog 27 #[.agg #[.int .i64 an, .int .i64 ad], .agg #[.int .i64 bn, .int .i64 bd]] w fun e w' => e = .returned (.tuple #[.agg #[.int .i64 RN, .int .i64 RD], .int .i64 RE]) ∧ Gr w w' := by
  have HA := Lib.hid HA
  have HB := Lib.hid HB
  have HM := Lib.hid HM
  have q : (bn == 0) = false := by simp; omega
  have q2 : decide (bn < 0) = true := decide_eq_true (by omega)
  go_enter Try.func27, Try.ntmps27
  go_wp2_with (first
    | (go_at_call 16; with_reducible refine (HA.out _).mono ?_; rintro e w1 ⟨rfl, hg1⟩; obtain ⟨hc1, hf1⟩ := hg1.cells; have hz1 := hg1.size; (try simp at hz1); (try have hl1_0_0 : w.heap.size < w1.heap.size := by omega); (try have hm1_0_0 : w.heap.size ≤ w1.heap.size := by omega); (try have hl1_0_1 : w.heap.size + 1 < w1.heap.size := by omega); (try have hl1_0_2 : w.heap.size + 2 < w1.heap.size := by omega))
    | (go_at_call 16; with_reducible refine (HB.out _).mono ?_; rintro e w2 ⟨rfl, hg2⟩; obtain ⟨hc2, hf2⟩ := hg2.cells; have hz2 := hg2.size; (try simp at hz2); (try have hl2_0_0 : w.heap.size < w2.heap.size := by omega); (try have hm2_0_0 : w.heap.size ≤ w2.heap.size := by omega); (try have hl2_0_1 : w.heap.size + 1 < w2.heap.size := by omega); (try have hl2_0_2 : w.heap.size + 2 < w2.heap.size := by omega); (try have hl2_1_0 : w1.heap.size < w2.heap.size := by omega); (try have hm2_1_0 : w1.heap.size ≤ w2.heap.size := by omega); (try have hl2_1_1 : w1.heap.size + 1 < w2.heap.size := by omega); (try have hl2_1_2 : w1.heap.size + 2 < w2.heap.size := by omega))
    | (go_at_call 26; with_reducible refine (HM.out _).mono ?_; rintro e w3 ⟨rfl, hg3⟩; obtain ⟨hc3, hf3⟩ := hg3.cells; have hz3 := hg3.size; (try simp at hz3); (try have hl3_0_0 : w.heap.size < w3.heap.size := by omega); (try have hm3_0_0 : w.heap.size ≤ w3.heap.size := by omega); (try have hl3_0_1 : w.heap.size + 1 < w3.heap.size := by omega); (try have hl3_0_2 : w.heap.size + 2 < w3.heap.size := by omega); (try have hl3_1_0 : w1.heap.size < w3.heap.size := by omega); (try have hm3_1_0 : w1.heap.size ≤ w3.heap.size := by omega); (try have hl3_1_1 : w1.heap.size + 1 < w3.heap.size := by omega); (try have hl3_1_2 : w1.heap.size + 2 < w3.heap.size := by omega); (try have hl3_2_0 : w2.heap.size < w3.heap.size := by omega); (try have hm3_2_0 : w2.heap.size ≤ w3.heap.size := by omega); (try have hl3_2_1 : w2.heap.size + 1 < w3.heap.size := by omega); (try have hl3_2_2 : w2.heap.size + 2 < w3.heap.size := by omega)))
  simp [bodyPost, results, Try.results27, go_sem, hc1, hf1, hc2, hf2, hc3, hf3, hl1_0_0, hl1_0_1, hl1_0_2, hl2_0_0, hl2_0_1, hl2_0_2, hl3_0_0, hl3_0_1, hl3_0_2]
  exact (by repeat (first | refine Gr.setCell ?_ (by first | omega | (simp; done) | (simp; omega)) _ | refine Gr.alloc ?_ _ | refine Gr.drew ?_ | refine Gr.drewN ?_ _ | with_reducible assumption | with_reducible exact Gr.refl _ | refine Gr.trans ?_ (by with_reducible assumption)))

theorem sub_any (an ad bn bd : Int) (w : World) (hA : I64 an) (hB : I64 ad) (hC : I64 bn) (hD : I64 bd) :
    Calls Try.prog 32 #[.agg #[.int .i64 an, .int .i64 ad], .agg #[.int .i64 bn, .int .i64 bd]] w fun e w' => e = .returned (arV (vB an ad && vB bn bd) (an * bd + -bn * ad) (ad * bd)) ∧ Gr w w' := by
  have HA := fun w => valid_any an ad w hA hB
  have HB := fun w => valid_any bn bd w hC hD
  cases va : vB an ad
  · rw [va] at HA
    rw [Bool.false_and, arV_no]
    exact arith_no_sub an ad bn bd false (vB bn bd) w (.inl rfl) HA HB
  · cases vb : vB bn bd
    · rw [va] at HA
      rw [vb] at HB
      rw [Bool.and_false, arV_no]
      exact arith_no_sub an ad bn bd true false w (.inr ⟨rfl, rfl⟩) HA HB
    · rw [va] at HA
      rw [vb] at HB
      rw [Bool.true_and, arV_yes]
      exact sub_core an ad bn bd _ _ _ w hA hB hC hD (vB_inv vb).2.1 HA HB (fun w => by
        have := add_any an ad (-bn) bd w hA hB (vB_i64 hC vb) hD
        rw [va, vB_opp bn bd hC vb, Bool.true_and, arV_yes] at this
        exact this)
theorem rsub_any (an ad bn bd : Int) (w : World) (hA : I64 an) (hB : I64 ad) (hC : I64 bn) (hD : I64 bd) :
    Calls Try.prog 33 #[.agg #[.int .i64 an, .int .i64 ad], .agg #[.int .i64 bn, .int .i64 bd]] w fun e w' => e = .returned (arV (vB an ad && vB bn bd) (an * bd + -bn * ad) (ad * bd)) ∧ Gr w w' := by
  have HB := fun w => rvalid_any bn bd w hC hD
  cases vb : vB bn bd
  · rw [vb] at HB
    rw [Bool.and_false, arV_no]
    exact rsub_no an ad bn bd w HB
  · rw [vb] at HB
    rw [Bool.and_true]
    exact rsub_core an ad bn bd _ _ _ w hA hB hC hD (vB_inv vb).2.1 HB (fun w => by
        have := radd_any an ad (-bn) bd w hA hB (vB_i64 hC vb) hD
        rw [vB_opp bn bd hC vb, Bool.and_true] at this
        exact this)
/-- a quotient's numerator and denominator before they are reduced -/
def dvX (an bn bd : Int) : Int := if bn < 0 then an * -bd else an * bd
def dvY (ad bn : Int) : Int := if bn < 0 then ad * -bn else ad * bn
theorem div_any (an ad bn bd : Int) (w : World) (hA : I64 an) (hB : I64 ad) (hC : I64 bn) (hD : I64 bd) :
    Calls Try.prog 35 #[.agg #[.int .i64 an, .int .i64 ad], .agg #[.int .i64 bn, .int .i64 bd]] w fun e w' => e = .returned (arV (vB an ad && vB bn bd && decide (bn ≠ 0)) (dvX an bn bd) (dvY ad bn)) ∧ Gr w w' := by
  have HA := fun w => valid_any an ad w hA hB
  have HB := fun w => valid_any bn bd w hC hD
  cases va : vB an ad
  · rw [va] at HA
    rw [Bool.false_and, Bool.false_and, arV_no]
    exact arith_no_div an ad bn bd false (vB bn bd) w (.inl rfl) HA HB
  · cases vb : vB bn bd
    · rw [va] at HA
      rw [vb] at HB
      rw [Bool.and_false, Bool.false_and, arV_no]
      exact arith_no_div an ad bn bd true false w (.inr ⟨rfl, rfl⟩) HA HB
    · rw [va] at HA
      rw [vb] at HB
      obtain ⟨v1, v2, v3⟩ := vB_inv vb
      rcases Int.lt_trichotomy bn 0 with hz | hz | hz
      · have e : decide (bn ≠ 0) = true := decide_eq_true (by omega)
        rw [e, Bool.and_true, Bool.true_and, arV_yes]
        unfold dvX dvY
        rw [if_pos hz, if_pos hz]
        exact div_neg an ad bn bd _ _ _ w hz v2 v1 hD.2 HA HB (fun w => by
          have := mul_any an ad (-bd) (-bn) w hA hB ⟨by have := hD.2; omega, by omega⟩ ⟨by omega, by omega⟩
          rw [va, vB_flip_neg hD vb hz, Bool.true_and, arV_yes] at this
          exact this)
      · subst hz
        exact div_zero an ad bd w HA HB
      · have e : decide (bn ≠ 0) = true := decide_eq_true (by omega)
        rw [e, Bool.and_true, Bool.true_and, arV_yes]
        unfold dvX dvY
        rw [if_neg (by omega), if_neg (by omega)]
        exact div_pos an ad bn bd _ _ _ w hz hC hD HA HB (fun w => by
          have := mul_any an ad bd bn w hA hB hD hC
          rw [va, vB_flip hD vb hz, Bool.true_and, arV_yes] at this
          exact this)
theorem rdiv_any (an ad bn bd : Int) (w : World) (hA : I64 an) (hB : I64 ad) (hC : I64 bn) (hD : I64 bd) :
    Calls Try.prog 27 #[.agg #[.int .i64 an, .int .i64 ad], .agg #[.int .i64 bn, .int .i64 bd]] w fun e w' => e = .returned (arV (vB an ad && vB bn bd && decide (bn ≠ 0)) (dvX an bn bd) (dvY ad bn)) ∧ Gr w w' := by
  have HA := fun w => rvalid_any an ad w hA hB
  have HB := fun w => rvalid_any bn bd w hC hD
  cases va : vB an ad
  · rw [va] at HA
    rw [Bool.false_and, Bool.false_and, arV_no]
    exact rarith_no_div an ad bn bd false (vB bn bd) w (.inl rfl) HA HB
  · cases vb : vB bn bd
    · rw [va] at HA
      rw [vb] at HB
      rw [Bool.and_false, Bool.false_and, arV_no]
      exact rarith_no_div an ad bn bd true false w (.inr ⟨rfl, rfl⟩) HA HB
    · rw [va] at HA
      rw [vb] at HB
      obtain ⟨v1, v2, v3⟩ := vB_inv vb
      rcases Int.lt_trichotomy bn 0 with hz | hz | hz
      · have e : decide (bn ≠ 0) = true := decide_eq_true (by omega)
        rw [e, Bool.and_true, Bool.true_and, arV_yes]
        unfold dvX dvY
        rw [if_pos hz, if_pos hz]
        exact rdiv_neg an ad bn bd _ _ _ w hz v2 v1 hD.2 HA HB (fun w => by
          have := rmul_any an ad (-bd) (-bn) w hA hB ⟨by have := hD.2; omega, by omega⟩ ⟨by omega, by omega⟩
          rw [va, vB_flip_neg hD vb hz, Bool.true_and, arV_yes] at this
          exact this)
      · subst hz
        exact rdiv_zero an ad bd w HA HB
      · have e : decide (bn ≠ 0) = true := decide_eq_true (by omega)
        rw [e, Bool.and_true, Bool.true_and, arV_yes]
        unfold dvX dvY
        rw [if_neg (by omega), if_neg (by omega)]
        exact rdiv_pos an ad bn bd _ _ _ w hz hC hD HA HB (fun w => by
          have := rmul_any an ad bd bn w hA hB hD hC
          rw [va, vB_flip hD vb hz, Bool.true_and, arV_yes] at this
          exact this)
end Go.Proofs.Ytclfiaemjdflbaa
