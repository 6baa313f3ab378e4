/-
  Contracts of Drift of package timecode and of its reference.
  Conditions: the arguments are integers of their kinds.
-/
import Derived.Test.YtehdkoillpebgaaWalk19O
import Derived.Test.YtehdkoillpebgaaWalk19L
import Derived.Test.YtehdkoillpebgaaWalk19E
import Derived.Test.YtehdkoillpebgaaMath19E
namespace Go.Proofs.Ytehdkoillpebgaa
open Go.RowKit
set_option linter.unusedSimpArgs false
set_option linter.unusedVariables false

theorem drift_base (n N D V : Int) (d : Bool) (w : World)
    (H : ∀ w, Calls Try.prog 17 #[.agg #[.int .i64 N, .int .i64 D]] w fun e w' => e = .returned (.tuple #[.int .i64 V, .int .i64 1]) ∧ Gr w w') :
    Calls Try.prog 33 #[.int .i64 n, .agg #[.int .i64 N, .int .i64 D], .bool d] w fun e w' => e = .returned (.tuple #[.agg #[.int .i64 0, .int .i64 0], .int .i64 1]) ∧ Gr w w' := by
  have HN := Lib.hid H
  clear H
  go_enter Try.func33, Try.ntmps33
  go_wp2_with (go_at_call 17; refine (HN.out _).mono ?_; rintro e w1 ⟨rfl, hg1⟩; obtain ⟨hc1, hf1⟩ := hg1.cells; have hz1 := hg1.size; (try simp at hz1); (try have hl1_0_0 : w.heap.size < w1.heap.size := by omega); (try have hm1_0_0 : w.heap.size ≤ w1.heap.size := by omega); (try have hl1_0_1 : w.heap.size + 1 < w1.heap.size := by omega); (try have hl1_0_2 : w.heap.size + 2 < w1.heap.size := by omega))
  simp [bodyPost, results, Try.results33, go_sem, hc1, hf1]
  exact (by repeat (first | refine Gr.setCell ?_ (by first | omega | (simp; done) | (simp; omega)) _ | refine Gr.alloc ?_ _ | refine Gr.drew ?_ | refine Gr.drewN ?_ _ | with_reducible assumption | with_reducible exact Gr.refl _ | refine Gr.trans ?_ (by with_reducible assumption)))
theorem rdrift_base (n N D V : Int) (d : Bool) (w : World)
    (H : ∀ w, Calls Try.prog 18 #[.agg #[.int .i64 N, .int .i64 D]] w fun e w' => e = .returned (.tuple #[.int .i64 V, .int .i64 1]) ∧ Gr w w') :
    Calls Try.prog 34 #[.int .i64 n, .agg #[.int .i64 N, .int .i64 D], .bool d] w fun e w' => e = .returned (.tuple #[.agg #[.int .i64 0, .int .i64 0], .int .i64 1]) ∧ Gr w w' := by
  have HN := Lib.hid H
  clear H
  go_enter Try.func34, Try.ntmps34
  go_wp2_with (go_at_call 18; refine (HN.out _).mono ?_; rintro e w1 ⟨rfl, hg1⟩; obtain ⟨hc1, hf1⟩ := hg1.cells; have hz1 := hg1.size; (try simp at hz1); (try have hl1_0_0 : w.heap.size < w1.heap.size := by omega); (try have hm1_0_0 : w.heap.size ≤ w1.heap.size := by omega); (try have hl1_0_1 : w.heap.size + 1 < w1.heap.size := by omega); (try have hl1_0_2 : w.heap.size + 2 < w1.heap.size := by omega))
  simp [bodyPost, results, Try.results34, go_sem, hc1, hf1]
  exact (by repeat (first | refine Gr.setCell ?_ (by first | omega | (simp; done) | (simp; omega)) _ | refine Gr.alloc ?_ _ | refine Gr.drew ?_ | refine Gr.drewN ?_ _ | with_reducible assumption | with_reducible exact Gr.refl _ | refine Gr.trans ?_ (by with_reducible assumption)))

theorem drift_day (n N D b V : Int) (d : Bool) (w : World)
    (H : ∀ w, Calls Try.prog 17 #[.agg #[.int .i64 N, .int .i64 D]] w fun e w' => e = .returned (.tuple #[.int .i64 b, .int .i64 0]) ∧ Gr w w')
    (HD : ∀ w, Calls Try.prog 21 #[.int .i64 b, .bool d] w fun e w' => e = .returned (.tuple #[.int .i64 V, .int .i64 1]) ∧ w = w') :
    Calls Try.prog 33 #[.int .i64 n, .agg #[.int .i64 N, .int .i64 D], .bool d] w fun e w' => e = .returned (.tuple #[.agg #[.int .i64 0, .int .i64 0], .int .i64 1]) ∧ Gr w w' := by
  have HN := Lib.hid H
  have HD := Lib.hid HD
  clear H
  go_enter Try.func33, Try.ntmps33
  go_wp2_with (first
    | (go_at_call 17; refine (HN.out _).mono ?_; rintro e w1 ⟨rfl, hg1⟩; obtain ⟨hc1, hf1⟩ := hg1.cells; have hz1 := hg1.size; (try simp at hz1); (try have hl1_0_0 : w.heap.size < w1.heap.size := by omega); (try have hm1_0_0 : w.heap.size ≤ w1.heap.size := by omega); (try have hl1_0_1 : w.heap.size + 1 < w1.heap.size := by omega); (try have hl1_0_2 : w.heap.size + 2 < w1.heap.size := by omega))
    | (go_at_call 21; refine (HD.out _).mono ?_; rintro e w' ⟨rfl, rfl⟩))
  simp [bodyPost, results, Try.results33, go_sem, hc1, hf1]
  exact (by repeat (first | refine Gr.setCell ?_ (by first | omega | (simp; done) | (simp; omega)) _ | refine Gr.alloc ?_ _ | refine Gr.drew ?_ | refine Gr.drewN ?_ _ | with_reducible assumption | with_reducible exact Gr.refl _ | refine Gr.trans ?_ (by with_reducible assumption)))
theorem rdrift_day (n N D b V : Int) (d : Bool) (w : World)
    (H : ∀ w, Calls Try.prog 18 #[.agg #[.int .i64 N, .int .i64 D]] w fun e w' => e = .returned (.tuple #[.int .i64 b, .int .i64 0]) ∧ Gr w w')
    (HD : ∀ w, Calls Try.prog 22 #[.int .i64 b, .bool d] w fun e w' => e = .returned (.tuple #[.int .i64 V, .int .i64 1]) ∧ w = w') :
    Calls Try.prog 34 #[.int .i64 n, .agg #[.int .i64 N, .int .i64 D], .bool d] w fun e w' => e = .returned (.tuple #[.agg #[.int .i64 0, .int .i64 0], .int .i64 1]) ∧ Gr w w' := by
  have HN := Lib.hid H
  have HD := Lib.hid HD
  clear H
  go_enter Try.func34, Try.ntmps34
  go_wp2_with (first
    | (go_at_call 18; refine (HN.out _).mono ?_; rintro e w1 ⟨rfl, hg1⟩; obtain ⟨hc1, hf1⟩ := hg1.cells; have hz1 := hg1.size; (try simp at hz1); (try have hl1_0_0 : w.heap.size < w1.heap.size := by omega); (try have hm1_0_0 : w.heap.size ≤ w1.heap.size := by omega); (try have hl1_0_1 : w.heap.size + 1 < w1.heap.size := by omega); (try have hl1_0_2 : w.heap.size + 2 < w1.heap.size := by omega))
    | (go_at_call 22; refine (HD.out _).mono ?_; rintro e w' ⟨rfl, rfl⟩))
  simp [bodyPost, results, Try.results34, go_sem, hc1, hf1]
  exact (by repeat (first | refine Gr.setCell ?_ (by first | omega | (simp; done) | (simp; omega)) _ | refine Gr.alloc ?_ _ | refine Gr.drew ?_ | refine Gr.drewN ?_ _ | with_reducible assumption | with_reducible exact Gr.refl _ | refine Gr.trans ?_ (by with_reducible assumption)))

theorem drift_range (n N D b Y : Int) (d : Bool) (w : World) (hn : I64 n) (hy : Y ≤ 5184000) (hr : n < 0 ∨ Y ≤ n)
    (H : ∀ w, Calls Try.prog 17 #[.agg #[.int .i64 N, .int .i64 D]] w fun e w' => e = .returned (.tuple #[.int .i64 b, .int .i64 0]) ∧ Gr w w')
    (HD : ∀ w, Calls Try.prog 21 #[.int .i64 b, .bool d] w fun e w' => e = .returned (.tuple #[.int .i64 Y, .int .i64 0]) ∧ w = w') :
    Calls Try.prog 33 #[.int .i64 n, .agg #[.int .i64 N, .int .i64 D], .bool d] w fun e w' => e = .returned (.tuple #[.agg #[.int .i64 0, .int .i64 0], .int .i64 2]) ∧ Gr w w' := by
  have HN := Lib.hid H
  have HD := Lib.hid HD
  obtain ⟨n1, n2⟩ := hn
  clear H
  rcases (show n < 0 ∨ (0 ≤ n ∧ Y ≤ n) by omega) with h | ⟨h, h'⟩
  all_goals
    clear hr
    go_enter Try.func33, Try.ntmps33
    go_wp2_with (first
      | (go_at_call 17; refine (HN.out _).mono ?_; rintro e w1 ⟨rfl, hg1⟩; obtain ⟨hc1, hf1⟩ := hg1.cells; have hz1 := hg1.size; (try simp at hz1); (try have hl1_0_0 : w.heap.size < w1.heap.size := by omega); (try have hm1_0_0 : w.heap.size ≤ w1.heap.size := by omega); (try have hl1_0_1 : w.heap.size + 1 < w1.heap.size := by omega); (try have hl1_0_2 : w.heap.size + 2 < w1.heap.size := by omega))
      | (go_at_call 21; refine (HD.out _).mono ?_; rintro e w' ⟨rfl, rfl⟩))
    simp [bodyPost, results, Try.results33, go_sem, hc1, hf1]
    exact (by repeat (first | refine Gr.setCell ?_ (by first | omega | (simp; done) | (simp; omega)) _ | refine Gr.alloc ?_ _ | refine Gr.drew ?_ | refine Gr.drewN ?_ _ | with_reducible assumption | with_reducible exact Gr.refl _ | refine Gr.trans ?_ (by with_reducible assumption)))
theorem rdrift_range (n N D b Y : Int) (d : Bool) (w : World) (hn : I64 n) (hy : Y ≤ 5184000) (hr : n < 0 ∨ Y ≤ n)
    (H : ∀ w, Calls Try.prog 18 #[.agg #[.int .i64 N, .int .i64 D]] w fun e w' => e = .returned (.tuple #[.int .i64 b, .int .i64 0]) ∧ Gr w w')
    (HD : ∀ w, Calls Try.prog 22 #[.int .i64 b, .bool d] w fun e w' => e = .returned (.tuple #[.int .i64 Y, .int .i64 0]) ∧ w = w') :
    Calls Try.prog 34 #[.int .i64 n, .agg #[.int .i64 N, .int .i64 D], .bool d] w fun e w' => e = .returned (.tuple #[.agg #[.int .i64 0, .int .i64 0], .int .i64 2]) ∧ Gr w w' := by
  have HN := Lib.hid H
  have HD := Lib.hid HD
  obtain ⟨n1, n2⟩ := hn
  clear H
  rcases (show n < 0 ∨ (0 ≤ n ∧ Y ≤ n) by omega) with h | ⟨h, h'⟩
  all_goals
    clear hr
    go_enter Try.func34, Try.ntmps34
    go_wp2_with (first
      | (go_at_call 18; refine (HN.out _).mono ?_; rintro e w1 ⟨rfl, hg1⟩; obtain ⟨hc1, hf1⟩ := hg1.cells; have hz1 := hg1.size; (try simp at hz1); (try have hl1_0_0 : w.heap.size < w1.heap.size := by omega); (try have hm1_0_0 : w.heap.size ≤ w1.heap.size := by omega); (try have hl1_0_1 : w.heap.size + 1 < w1.heap.size := by omega); (try have hl1_0_2 : w.heap.size + 2 < w1.heap.size := by omega))
      | (go_at_call 22; refine (HD.out _).mono ?_; rintro e w' ⟨rfl, rfl⟩))
    simp [bodyPost, results, Try.results34, go_sem, hc1, hf1]
    exact (by repeat (first | refine Gr.setCell ?_ (by first | omega | (simp; done) | (simp; omega)) _ | refine Gr.alloc ?_ _ | refine Gr.drew ?_ | refine Gr.drewN ?_ _ | with_reducible assumption | with_reducible exact Gr.refl _ | refine Gr.trans ?_ (by with_reducible assumption)))

set_option maxHeartbeats 2000000 in
theorem drift_ok (n N D b Y P X Z A B E x0 x1 x2 x3 : Int) (d : Bool) (w : World) (hn0 : 0 ≤ n) (hn1 : n < Y) (hy : Y ≤ 5184000)
    (hX : P * N - n * D * b = X) (hZ : b * N = Z) (p1 : 0 ≤ P * N) (p2 : P * N ≤ 400000000000) (p3 : 0 ≤ n * D) (p4 : n * D ≤ 6000000000) (p5 : 0 ≤ n * D * b) (p6 : n * D * b ≤ 400000000000) (p7 : 0 ≤ b * N) (p8 : b * N ≤ 4000000)
    (H : ∀ w, Calls Try.prog 17 #[.agg #[.int .i64 N, .int .i64 D]] w fun e w' => e = .returned (.tuple #[.int .i64 b, .int .i64 0]) ∧ Gr w w')
    (HD : ∀ w, Calls Try.prog 21 #[.int .i64 b, .bool d] w fun e w' => e = .returned (.tuple #[.int .i64 Y, .int .i64 0]) ∧ w = w')
    (HL : ∀ w, Calls Try.prog 23 #[.int .i64 n, .int .i64 b, .bool d] w fun e w' => e = .returned (.tuple #[.agg #[.int .i64 x0, .int .i64 x1, .int .i64 x2, .int .i64 x3, .int .i64 b, .bool d], .int .i64 0]) ∧ Gr w w')
    (HP : ∀ w, Calls Try.prog 42 #[.agg #[.int .i64 x0, .int .i64 x1, .int .i64 x2, .int .i64 x3, .int .i64 b, .bool d]] w fun e w' => e = .returned (.int .i64 P) ∧ Gr w w')
    (HO : ∀ w, Calls Try.prog 44 #[.int .i64 X, .int .i64 Z] w fun e w' => e = .returned (.tuple #[.agg #[.int .i64 A, .int .i64 B], .int .i64 E]) ∧ Gr w w') :
    Calls Try.prog 33 #[.int .i64 n, .agg #[.int .i64 N, .int .i64 D], .bool d] w fun e w' => e = .returned (.tuple #[.agg #[.int .i64 A, .int .i64 B], .int .i64 E]) ∧ Gr w w' := by
  have e1 : IntKind.i64.wrap (P * N) = P * N := IntWalk.i64_in _ (by omega)
  have e2 : IntKind.i64.wrap (n * D) = n * D := IntWalk.i64_in _ (by omega)
  have e3 : IntKind.i64.wrap (n * D * b) = n * D * b := IntWalk.i64_in _ (by omega)
  have e4 : IntKind.i64.wrap (P * N - n * D * b) = X := by rw [IntWalk.i64_in _ (by omega), hX]
  have e5 : IntKind.i64.wrap (b * N) = Z := by rw [IntWalk.i64_in _ (by omega), hZ]
  have e1 := Lib.hid e1
  have e2 := Lib.hid e2
  have e3 := Lib.hid e3
  have e4 := Lib.hid e4
  have e5 := Lib.hid e5
  have HN := Lib.hid H
  have HD := Lib.hid HD
  have HL := Lib.hid HL
  have HP := Lib.hid HP
  have HO := Lib.hid HO
  clear H hX hZ p1 p2 p3 p4 p5 p6 p7 p8
  go_enter Try.func33, Try.ntmps33
  go_wp2_with (first
    | (go_at_call 17; refine (HN.out _).mono ?_; rintro e w1 ⟨rfl, hg1⟩; obtain ⟨hc1, hf1⟩ := hg1.cells; have hz1 := hg1.size; (try simp at hz1); (try have hl1_0_0 : w.heap.size < w1.heap.size := by omega); (try have hm1_0_0 : w.heap.size ≤ w1.heap.size := by omega); (try have hl1_0_1 : w.heap.size + 1 < w1.heap.size := by omega); (try have hl1_0_2 : w.heap.size + 2 < w1.heap.size := by omega))
    | (go_at_call 21; refine (HD.out _).mono ?_; rintro e w' ⟨rfl, rfl⟩)
    | (go_at_call 23; refine (HL.out _).mono ?_; rintro e w2 ⟨rfl, hg2⟩; obtain ⟨hc2, hf2⟩ := hg2.cells; have hz2 := hg2.size; (try simp at hz2); (try have hl2_0_0 : w.heap.size < w2.heap.size := by omega); (try have hm2_0_0 : w.heap.size ≤ w2.heap.size := by omega); (try have hl2_0_1 : w.heap.size + 1 < w2.heap.size := by omega); (try have hl2_0_2 : w.heap.size + 2 < w2.heap.size := by omega); (try have hl2_1_0 : w1.heap.size < w2.heap.size := by omega); (try have hm2_1_0 : w1.heap.size ≤ w2.heap.size := by omega); (try have hl2_1_1 : w1.heap.size + 1 < w2.heap.size := by omega); (try have hl2_1_2 : w1.heap.size + 2 < w2.heap.size := by omega)))
  have e1 := e1.out
  have e2 := e2.out
  have e3 := e3.out
  have e4 := e4.out
  have e5 := e5.out
  refine wp_region_gr_tail 19 (by kernel_rfl) (by kernel_rfl) (fun hq1 hq2 => ?_)
  simp only [List.take_succ_cons, List.take_zero, List.drop_succ_cons, List.drop_zero]
  repeat (first | go_big_quiet_skip | (go_big_quiet_want; go_big_quiet_op; first | go_big_quiet_on | (apply Exists.intro; refine ⟨fun _ => ?_, ?_⟩; (· (first | (go_at_call 42; exact gr_call (HP.out _)) | (go_at_call 44; exact gr_call (HO.out _)))); go_big_quiet_on)))
  refine wpQuiet_nil ?_
  clear hq1 hq2
  rintro w3 ⟨⟨_, hg3⟩, rfl⟩
  obtain ⟨hc3, hf3⟩ := hg3.cells
  have hz3 := hg3.size
  (try simp at hz3); (try have hl3_0_0 : w.heap.size < w3.heap.size := by omega); (try have hm3_0_0 : w.heap.size ≤ w3.heap.size := by omega); (try have hl3_0_1 : w.heap.size + 1 < w3.heap.size := by omega); (try have hl3_0_2 : w.heap.size + 2 < w3.heap.size := by omega); (try have hl3_1_0 : w1.heap.size < w3.heap.size := by omega); (try have hm3_1_0 : w1.heap.size ≤ w3.heap.size := by omega); (try have hl3_1_1 : w1.heap.size + 1 < w3.heap.size := by omega); (try have hl3_1_2 : w1.heap.size + 2 < w3.heap.size := by omega); (try have hl3_2_0 : w2.heap.size < w3.heap.size := by omega); (try have hm3_2_0 : w2.heap.size ≤ w3.heap.size := by omega); (try have hl3_2_1 : w2.heap.size + 1 < w3.heap.size := by omega); (try have hl3_2_2 : w2.heap.size + 2 < w3.heap.size := by omega)
  go_wp2
  simp [bodyPost, results, Try.results33, go_sem, hc1, hf1, hc2, hf2, hc3, hf3, hl1_0_0, hl1_0_1, hl2_0_0, hl2_0_1]
  exact (by repeat (first | refine Gr.setCell ?_ (by first | omega | (simp; done) | (simp; omega)) _ | refine Gr.alloc ?_ _ | refine Gr.drew ?_ | refine Gr.drewN ?_ _ | with_reducible assumption | with_reducible exact Gr.refl _ | refine Gr.trans ?_ (by with_reducible assumption)))

set_option maxHeartbeats 2000000 in
theorem rdrift_ok (n N D b Y P X Z A B x0 x1 x2 x3 : Int) (d : Bool) (w : World) (hn0 : 0 ≤ n) (hn1 : n < Y) (hy : Y ≤ 5184000)
    (hX : P * N - n * D * b = X) (hZ : b * N = Z) (p1 : 0 ≤ P * N) (p2 : P * N ≤ 400000000000) (p3 : 0 ≤ n * D) (p4 : n * D ≤ 6000000000) (p5 : 0 ≤ n * D * b) (p6 : n * D * b ≤ 400000000000) (p7 : 0 ≤ b * N) (p8 : b * N ≤ 4000000)
    (H : ∀ w, Calls Try.prog 18 #[.agg #[.int .i64 N, .int .i64 D]] w fun e w' => e = .returned (.tuple #[.int .i64 b, .int .i64 0]) ∧ Gr w w')
    (HD : ∀ w, Calls Try.prog 22 #[.int .i64 b, .bool d] w fun e w' => e = .returned (.tuple #[.int .i64 Y, .int .i64 0]) ∧ w = w')
    (HL : ∀ w, Calls Try.prog 24 #[.int .i64 n, .int .i64 b, .bool d] w fun e w' => e = .returned (.tuple #[.agg #[.int .i64 x0, .int .i64 x1, .int .i64 x2, .int .i64 x3, .int .i64 b, .bool d], .int .i64 0]) ∧ Gr w w')
    (HP : ∀ w, Calls Try.prog 46 #[.agg #[.int .i64 x0, .int .i64 x1, .int .i64 x2, .int .i64 x3, .int .i64 b, .bool d]] w fun e w' => e = .returned (.int .i64 P) ∧ Gr w w')
    (HO : ∀ w, Calls Try.prog 45 #[.int .i64 X, .int .i64 Z] w fun e w' => e = .returned (.agg #[.int .i64 A, .int .i64 B]) ∧ Gr w w') :
    Calls Try.prog 34 #[.int .i64 n, .agg #[.int .i64 N, .int .i64 D], .bool d] w fun e w' => e = .returned (.tuple #[.agg #[.int .i64 A, .int .i64 B], .int .i64 0]) ∧ Gr w w' := by
  have e1 : IntKind.i64.wrap (P * N) = P * N := IntWalk.i64_in _ (by omega)
  have e2 : IntKind.i64.wrap (n * D) = n * D := IntWalk.i64_in _ (by omega)
  have e3 : IntKind.i64.wrap (n * D * b) = n * D * b := IntWalk.i64_in _ (by omega)
  have e4 : IntKind.i64.wrap (P * N - n * D * b) = X := by rw [IntWalk.i64_in _ (by omega), hX]
  have e5 : IntKind.i64.wrap (b * N) = Z := by rw [IntWalk.i64_in _ (by omega), hZ]
  have e1 := Lib.hid e1
  have e2 := Lib.hid e2
  have e3 := Lib.hid e3
  have e4 := Lib.hid e4
  have e5 := Lib.hid e5
  have HN := Lib.hid H
  have HD := Lib.hid HD
  have HL := Lib.hid HL
  have HP := Lib.hid HP
  have HO := Lib.hid HO
  clear H hX hZ p1 p2 p3 p4 p5 p6 p7 p8
  go_enter Try.func34, Try.ntmps34
  go_wp2_with (first
    | (go_at_call 18; refine (HN.out _).mono ?_; rintro e w1 ⟨rfl, hg1⟩; obtain ⟨hc1, hf1⟩ := hg1.cells; have hz1 := hg1.size; (try simp at hz1); (try have hl1_0_0 : w.heap.size < w1.heap.size := by omega); (try have hm1_0_0 : w.heap.size ≤ w1.heap.size := by omega); (try have hl1_0_1 : w.heap.size + 1 < w1.heap.size := by omega); (try have hl1_0_2 : w.heap.size + 2 < w1.heap.size := by omega))
    | (go_at_call 22; refine (HD.out _).mono ?_; rintro e w' ⟨rfl, rfl⟩)
    | (go_at_call 24; refine (HL.out _).mono ?_; rintro e w2 ⟨rfl, hg2⟩; obtain ⟨hc2, hf2⟩ := hg2.cells; have hz2 := hg2.size; (try simp at hz2); (try have hl2_0_0 : w.heap.size < w2.heap.size := by omega); (try have hm2_0_0 : w.heap.size ≤ w2.heap.size := by omega); (try have hl2_0_1 : w.heap.size + 1 < w2.heap.size := by omega); (try have hl2_0_2 : w.heap.size + 2 < w2.heap.size := by omega); (try have hl2_1_0 : w1.heap.size < w2.heap.size := by omega); (try have hm2_1_0 : w1.heap.size ≤ w2.heap.size := by omega); (try have hl2_1_1 : w1.heap.size + 1 < w2.heap.size := by omega); (try have hl2_1_2 : w1.heap.size + 2 < w2.heap.size := by omega)))
  have e1 := e1.out
  have e2 := e2.out
  have e3 := e3.out
  have e4 := e4.out
  have e5 := e5.out
  refine wp_region_gr_tail 17 (by kernel_rfl) (by kernel_rfl) (fun hq1 hq2 => ?_)
  simp only [List.take_succ_cons, List.take_zero, List.drop_succ_cons, List.drop_zero]
  repeat (first | go_big_quiet_skip | (go_big_quiet_want; go_big_quiet_op; first | go_big_quiet_on | (apply Exists.intro; refine ⟨fun _ => ?_, ?_⟩; (· (first | (go_at_call 46; exact gr_call (HP.out _)) | (go_at_call 45; exact gr_call (HO.out _)))); go_big_quiet_on)))
  refine wpQuiet_nil ?_
  clear hq1 hq2
  rintro w3 ⟨⟨_, hg3⟩, rfl⟩
  obtain ⟨hc3, hf3⟩ := hg3.cells
  have hz3 := hg3.size
  (try simp at hz3); (try have hl3_0_0 : w.heap.size < w3.heap.size := by omega); (try have hm3_0_0 : w.heap.size ≤ w3.heap.size := by omega); (try have hl3_0_1 : w.heap.size + 1 < w3.heap.size := by omega); (try have hl3_0_2 : w.heap.size + 2 < w3.heap.size := by omega); (try have hl3_1_0 : w1.heap.size < w3.heap.size := by omega); (try have hm3_1_0 : w1.heap.size ≤ w3.heap.size := by omega); (try have hl3_1_1 : w1.heap.size + 1 < w3.heap.size := by omega); (try have hl3_1_2 : w1.heap.size + 2 < w3.heap.size := by omega); (try have hl3_2_0 : w2.heap.size < w3.heap.size := by omega); (try have hm3_2_0 : w2.heap.size ≤ w3.heap.size := by omega); (try have hl3_2_1 : w2.heap.size + 1 < w3.heap.size := by omega); (try have hl3_2_2 : w2.heap.size + 2 < w3.heap.size := by omega)
  go_wp2
  simp [bodyPost, results, Try.results34, go_sem, hc1, hf1, hc2, hf2, hc3, hf3, hl1_0_0, hl1_0_1, hl2_0_0, hl2_0_1]
  exact (by repeat (first | refine Gr.setCell ?_ (by first | omega | (simp; done) | (simp; omega)) _ | refine Gr.alloc ?_ _ | refine Gr.drew ?_ | refine Gr.drewN ?_ _ | with_reducible assumption | with_reducible exact Gr.refl _ | refine Gr.trans ?_ (by with_reducible assumption)))
end Go.Proofs.Ytehdkoillpebgaa
