
/-
  Contract of MulDiv of the reference, and the walk of the law RationalMulDiv.
  Conditions: the arguments are integers of their kinds.
-/
import Derived.Test.YtckmebfgianeoaaDoorWalkO
namespace Go.Proofs.YtckmebfgianeoaaDoor
open Go.RowKit
set_option linter.unusedSimpArgs false
set_option linter.unusedVariables false

set_option maxHeartbeats 1000000 in
theorem rmulDiv_pp_over (x n d u q r : Int) (w : World) (hx : I64 x) (hn : I64 n) (hd : 1 ≤ d ∧ d ≤ 9223372036854775807) (sx : (0≤x)) (sn : (0≤n))
    (hq : 9223372036854775808 < q) (hq2 : q < 18446744073709551616) (hr : 0 ≤ r ∧ r < d)
    (HT : ∀ w, Calls Tryd.prog 97 #[.int .u64 (mg x), .int .u64 (mg n)] w fun e w' => e = .returned (.agg #[.int .u64 (wH u), .int .u64 (wL u)]) ∧ Gr w w')
    (HO : ∀ w, Calls Tryd.prog 96 #[.agg #[.int .u64 (wH u), .int .u64 (wL u)], .int .u64 d] w fun e w' => e = .returned (.tuple #[.int .u64 q, .int .u64 r, .bool true]) ∧ Gr w w') :
    Calls Tryd.prog 79 #[.int .i64 x, .int .i64 n, .int .i64 d] w fun e w' => e = .returned (.tuple #[.int .i64 0, .int .i64 0, .int .i64 2]) ∧ Gr w w' := by
  have HT := Lib.hid HT
  have HO := Lib.hid HO
  obtain ⟨d1, d2⟩ := hd
  obtain ⟨r1, r2⟩ := hr
  have HX := Lib.hid (fun w => mag_any x w hx.1 hx.2)
  have HN := Lib.hid (fun w => mag_any n w hn.1 hn.2)
  clear hx hn
  have dx : decide (x < 0) = false := by simp; omega
  have dn : decide (n < 0) = false := by simp; omega
  go_enter Tryd.func79, Tryd.ntmps79
  go_wp2_with (first
    | (go_at_call 98; with_reducible refine (HX.out _).mono ?_; rintro e w' ⟨rfl, rfl⟩)
    | (go_at_call 98; with_reducible refine (HN.out _).mono ?_; rintro e w' ⟨rfl, rfl⟩)
    | (go_at_call 97; refine (HT.out _).mono ?_; rintro e w1 ⟨rfl, hg1⟩; obtain ⟨hc1, hf1⟩ := hg1.cells; have hz1 := hg1.size; (try simp at hz1); (try have hl1_0_0 : w.heap.size < w1.heap.size := by omega); (try have hm1_0_0 : w.heap.size ≤ w1.heap.size := by omega); (try have hl1_0_1 : w.heap.size + 1 < w1.heap.size := by omega); (try have hl1_0_2 : w.heap.size + 2 < w1.heap.size := by omega))
    | (go_at_call 96; refine (HO.out _).mono ?_; rintro e w2 ⟨rfl, hg2⟩; obtain ⟨hc2, hf2⟩ := hg2.cells; have hz2 := hg2.size; (try simp at hz2); (try have hl2_0_0 : w.heap.size < w2.heap.size := by omega); (try have hm2_0_0 : w.heap.size ≤ w2.heap.size := by omega); (try have hl2_0_1 : w.heap.size + 1 < w2.heap.size := by omega); (try have hl2_0_2 : w.heap.size + 2 < w2.heap.size := by omega); (try have hl2_1_0 : w1.heap.size < w2.heap.size := by omega); (try have hm2_1_0 : w1.heap.size ≤ w2.heap.size := by omega); (try have hl2_1_1 : w1.heap.size + 1 < w2.heap.size := by omega); (try have hl2_1_2 : w1.heap.size + 2 < w2.heap.size := by omega)))
  go_ret3
  exact ⟨rfl, (by repeat (first | refine Gr.setCell ?_ (by first | omega | (simp; done) | (simp; omega)) _ | refine Gr.alloc ?_ _ | refine Gr.drew ?_ | refine Gr.drewN ?_ _ | with_reducible assumption | with_reducible exact Gr.refl _ | refine Gr.trans ?_ (by with_reducible assumption)))⟩

set_option maxHeartbeats 1000000 in
theorem rmulDiv_pp_no (x n d u : Int) (w : World) (hx : I64 x) (hn : I64 n) (hd : 1 ≤ d ∧ d ≤ 9223372036854775807) (sx : (0≤x)) (sn : (0≤n))
    (HT : ∀ w, Calls Tryd.prog 97 #[.int .u64 (mg x), .int .u64 (mg n)] w fun e w' => e = .returned (.agg #[.int .u64 (wH u), .int .u64 (wL u)]) ∧ Gr w w')
    (HO : ∀ w, Calls Tryd.prog 96 #[.agg #[.int .u64 (wH u), .int .u64 (wL u)], .int .u64 d] w fun e w' => e = .returned (.tuple #[.int .u64 0, .int .u64 0, .bool false]) ∧ Gr w w') :
    Calls Tryd.prog 79 #[.int .i64 x, .int .i64 n, .int .i64 d] w fun e w' => e = .returned (.tuple #[.int .i64 0, .int .i64 0, .int .i64 2]) ∧ Gr w w' := by
  have HT := Lib.hid HT
  have HO := Lib.hid HO
  obtain ⟨d1, d2⟩ := hd
  have HX := Lib.hid (fun w => mag_any x w hx.1 hx.2)
  have HN := Lib.hid (fun w => mag_any n w hn.1 hn.2)
  clear hx hn
  have dx : decide (x < 0) = false := by simp; omega
  have dn : decide (n < 0) = false := by simp; omega
  go_enter Tryd.func79, Tryd.ntmps79
  go_wp2_with (first
    | (go_at_call 98; with_reducible refine (HX.out _).mono ?_; rintro e w' ⟨rfl, rfl⟩)
    | (go_at_call 98; with_reducible refine (HN.out _).mono ?_; rintro e w' ⟨rfl, rfl⟩)
    | (go_at_call 97; refine (HT.out _).mono ?_; rintro e w1 ⟨rfl, hg1⟩; obtain ⟨hc1, hf1⟩ := hg1.cells; have hz1 := hg1.size; (try simp at hz1); (try have hl1_0_0 : w.heap.size < w1.heap.size := by omega); (try have hm1_0_0 : w.heap.size ≤ w1.heap.size := by omega); (try have hl1_0_1 : w.heap.size + 1 < w1.heap.size := by omega); (try have hl1_0_2 : w.heap.size + 2 < w1.heap.size := by omega))
    | (go_at_call 96; refine (HO.out _).mono ?_; rintro e w2 ⟨rfl, hg2⟩; obtain ⟨hc2, hf2⟩ := hg2.cells; have hz2 := hg2.size; (try simp at hz2); (try have hl2_0_0 : w.heap.size < w2.heap.size := by omega); (try have hm2_0_0 : w.heap.size ≤ w2.heap.size := by omega); (try have hl2_0_1 : w.heap.size + 1 < w2.heap.size := by omega); (try have hl2_0_2 : w.heap.size + 2 < w2.heap.size := by omega); (try have hl2_1_0 : w1.heap.size < w2.heap.size := by omega); (try have hm2_1_0 : w1.heap.size ≤ w2.heap.size := by omega); (try have hl2_1_1 : w1.heap.size + 1 < w2.heap.size := by omega); (try have hl2_1_2 : w1.heap.size + 2 < w2.heap.size := by omega)))
  go_ret3
  exact ⟨rfl, (by repeat (first | refine Gr.setCell ?_ (by first | omega | (simp; done) | (simp; omega)) _ | refine Gr.alloc ?_ _ | refine Gr.drew ?_ | refine Gr.drewN ?_ _ | with_reducible assumption | with_reducible exact Gr.refl _ | refine Gr.trans ?_ (by with_reducible assumption)))⟩

set_option maxHeartbeats 1000000 in
theorem rmulDiv_pn_over (x n d u q r : Int) (w : World) (hx : I64 x) (hn : I64 n) (hd : 1 ≤ d ∧ d ≤ 9223372036854775807) (sx : (0≤x)) (sn : (n<0))
    (hq : 9223372036854775808 < q) (hq2 : q < 18446744073709551616) (hr : 0 ≤ r ∧ r < d)
    (HT : ∀ w, Calls Tryd.prog 97 #[.int .u64 (mg x), .int .u64 (mg n)] w fun e w' => e = .returned (.agg #[.int .u64 (wH u), .int .u64 (wL u)]) ∧ Gr w w')
    (HO : ∀ w, Calls Tryd.prog 96 #[.agg #[.int .u64 (wH u), .int .u64 (wL u)], .int .u64 d] w fun e w' => e = .returned (.tuple #[.int .u64 q, .int .u64 r, .bool true]) ∧ Gr w w') :
    Calls Tryd.prog 79 #[.int .i64 x, .int .i64 n, .int .i64 d] w fun e w' => e = .returned (.tuple #[.int .i64 0, .int .i64 0, .int .i64 2]) ∧ Gr w w' := by
  have HT := Lib.hid HT
  have HO := Lib.hid HO
  obtain ⟨d1, d2⟩ := hd
  obtain ⟨r1, r2⟩ := hr
  have HX := Lib.hid (fun w => mag_any x w hx.1 hx.2)
  have HN := Lib.hid (fun w => mag_any n w hn.1 hn.2)
  clear hx hn
  have dx : decide (x < 0) = false := by simp; omega
  have dn : decide (n < 0) = true := by simp; omega
  go_enter Tryd.func79, Tryd.ntmps79
  go_wp2_with (first
    | (go_at_call 98; with_reducible refine (HX.out _).mono ?_; rintro e w' ⟨rfl, rfl⟩)
    | (go_at_call 98; with_reducible refine (HN.out _).mono ?_; rintro e w' ⟨rfl, rfl⟩)
    | (go_at_call 97; refine (HT.out _).mono ?_; rintro e w1 ⟨rfl, hg1⟩; obtain ⟨hc1, hf1⟩ := hg1.cells; have hz1 := hg1.size; (try simp at hz1); (try have hl1_0_0 : w.heap.size < w1.heap.size := by omega); (try have hm1_0_0 : w.heap.size ≤ w1.heap.size := by omega); (try have hl1_0_1 : w.heap.size + 1 < w1.heap.size := by omega); (try have hl1_0_2 : w.heap.size + 2 < w1.heap.size := by omega))
    | (go_at_call 96; refine (HO.out _).mono ?_; rintro e w2 ⟨rfl, hg2⟩; obtain ⟨hc2, hf2⟩ := hg2.cells; have hz2 := hg2.size; (try simp at hz2); (try have hl2_0_0 : w.heap.size < w2.heap.size := by omega); (try have hm2_0_0 : w.heap.size ≤ w2.heap.size := by omega); (try have hl2_0_1 : w.heap.size + 1 < w2.heap.size := by omega); (try have hl2_0_2 : w.heap.size + 2 < w2.heap.size := by omega); (try have hl2_1_0 : w1.heap.size < w2.heap.size := by omega); (try have hm2_1_0 : w1.heap.size ≤ w2.heap.size := by omega); (try have hl2_1_1 : w1.heap.size + 1 < w2.heap.size := by omega); (try have hl2_1_2 : w1.heap.size + 2 < w2.heap.size := by omega)))
  go_ret3
  exact ⟨rfl, (by repeat (first | refine Gr.setCell ?_ (by first | omega | (simp; done) | (simp; omega)) _ | refine Gr.alloc ?_ _ | refine Gr.drew ?_ | refine Gr.drewN ?_ _ | with_reducible assumption | with_reducible exact Gr.refl _ | refine Gr.trans ?_ (by with_reducible assumption)))⟩

set_option maxHeartbeats 1000000 in
theorem rmulDiv_pn_no (x n d u : Int) (w : World) (hx : I64 x) (hn : I64 n) (hd : 1 ≤ d ∧ d ≤ 9223372036854775807) (sx : (0≤x)) (sn : (n<0))
    (HT : ∀ w, Calls Tryd.prog 97 #[.int .u64 (mg x), .int .u64 (mg n)] w fun e w' => e = .returned (.agg #[.int .u64 (wH u), .int .u64 (wL u)]) ∧ Gr w w')
    (HO : ∀ w, Calls Tryd.prog 96 #[.agg #[.int .u64 (wH u), .int .u64 (wL u)], .int .u64 d] w fun e w' => e = .returned (.tuple #[.int .u64 0, .int .u64 0, .bool false]) ∧ Gr w w') :
    Calls Tryd.prog 79 #[.int .i64 x, .int .i64 n, .int .i64 d] w fun e w' => e = .returned (.tuple #[.int .i64 0, .int .i64 0, .int .i64 2]) ∧ Gr w w' := by
  have HT := Lib.hid HT
  have HO := Lib.hid HO
  obtain ⟨d1, d2⟩ := hd
  have HX := Lib.hid (fun w => mag_any x w hx.1 hx.2)
  have HN := Lib.hid (fun w => mag_any n w hn.1 hn.2)
  clear hx hn
  have dx : decide (x < 0) = false := by simp; omega
  have dn : decide (n < 0) = true := by simp; omega
  go_enter Tryd.func79, Tryd.ntmps79
  go_wp2_with (first
    | (go_at_call 98; with_reducible refine (HX.out _).mono ?_; rintro e w' ⟨rfl, rfl⟩)
    | (go_at_call 98; with_reducible refine (HN.out _).mono ?_; rintro e w' ⟨rfl, rfl⟩)
    | (go_at_call 97; refine (HT.out _).mono ?_; rintro e w1 ⟨rfl, hg1⟩; obtain ⟨hc1, hf1⟩ := hg1.cells; have hz1 := hg1.size; (try simp at hz1); (try have hl1_0_0 : w.heap.size < w1.heap.size := by omega); (try have hm1_0_0 : w.heap.size ≤ w1.heap.size := by omega); (try have hl1_0_1 : w.heap.size + 1 < w1.heap.size := by omega); (try have hl1_0_2 : w.heap.size + 2 < w1.heap.size := by omega))
    | (go_at_call 96; refine (HO.out _).mono ?_; rintro e w2 ⟨rfl, hg2⟩; obtain ⟨hc2, hf2⟩ := hg2.cells; have hz2 := hg2.size; (try simp at hz2); (try have hl2_0_0 : w.heap.size < w2.heap.size := by omega); (try have hm2_0_0 : w.heap.size ≤ w2.heap.size := by omega); (try have hl2_0_1 : w.heap.size + 1 < w2.heap.size := by omega); (try have hl2_0_2 : w.heap.size + 2 < w2.heap.size := by omega); (try have hl2_1_0 : w1.heap.size < w2.heap.size := by omega); (try have hm2_1_0 : w1.heap.size ≤ w2.heap.size := by omega); (try have hl2_1_1 : w1.heap.size + 1 < w2.heap.size := by omega); (try have hl2_1_2 : w1.heap.size + 2 < w2.heap.size := by omega)))
  go_ret3
  exact ⟨rfl, (by repeat (first | refine Gr.setCell ?_ (by first | omega | (simp; done) | (simp; omega)) _ | refine Gr.alloc ?_ _ | refine Gr.drew ?_ | refine Gr.drewN ?_ _ | with_reducible assumption | with_reducible exact Gr.refl _ | refine Gr.trans ?_ (by with_reducible assumption)))⟩

set_option maxHeartbeats 1000000 in
theorem rmulDiv_np_over (x n d u q r : Int) (w : World) (hx : I64 x) (hn : I64 n) (hd : 1 ≤ d ∧ d ≤ 9223372036854775807) (sx : (x<0)) (sn : (0≤n))
    (hq : 9223372036854775808 < q) (hq2 : q < 18446744073709551616) (hr : 0 ≤ r ∧ r < d)
    (HT : ∀ w, Calls Tryd.prog 97 #[.int .u64 (mg x), .int .u64 (mg n)] w fun e w' => e = .returned (.agg #[.int .u64 (wH u), .int .u64 (wL u)]) ∧ Gr w w')
    (HO : ∀ w, Calls Tryd.prog 96 #[.agg #[.int .u64 (wH u), .int .u64 (wL u)], .int .u64 d] w fun e w' => e = .returned (.tuple #[.int .u64 q, .int .u64 r, .bool true]) ∧ Gr w w') :
    Calls Tryd.prog 79 #[.int .i64 x, .int .i64 n, .int .i64 d] w fun e w' => e = .returned (.tuple #[.int .i64 0, .int .i64 0, .int .i64 2]) ∧ Gr w w' := by
  have HT := Lib.hid HT
  have HO := Lib.hid HO
  obtain ⟨d1, d2⟩ := hd
  obtain ⟨r1, r2⟩ := hr
  have HX := Lib.hid (fun w => mag_any x w hx.1 hx.2)
  have HN := Lib.hid (fun w => mag_any n w hn.1 hn.2)
  clear hx hn
  have dx : decide (x < 0) = true := by simp; omega
  have dn : decide (n < 0) = false := by simp; omega
  go_enter Tryd.func79, Tryd.ntmps79
  go_wp2_with (first
    | (go_at_call 98; with_reducible refine (HX.out _).mono ?_; rintro e w' ⟨rfl, rfl⟩)
    | (go_at_call 98; with_reducible refine (HN.out _).mono ?_; rintro e w' ⟨rfl, rfl⟩)
    | (go_at_call 97; refine (HT.out _).mono ?_; rintro e w1 ⟨rfl, hg1⟩; obtain ⟨hc1, hf1⟩ := hg1.cells; have hz1 := hg1.size; (try simp at hz1); (try have hl1_0_0 : w.heap.size < w1.heap.size := by omega); (try have hm1_0_0 : w.heap.size ≤ w1.heap.size := by omega); (try have hl1_0_1 : w.heap.size + 1 < w1.heap.size := by omega); (try have hl1_0_2 : w.heap.size + 2 < w1.heap.size := by omega))
    | (go_at_call 96; refine (HO.out _).mono ?_; rintro e w2 ⟨rfl, hg2⟩; obtain ⟨hc2, hf2⟩ := hg2.cells; have hz2 := hg2.size; (try simp at hz2); (try have hl2_0_0 : w.heap.size < w2.heap.size := by omega); (try have hm2_0_0 : w.heap.size ≤ w2.heap.size := by omega); (try have hl2_0_1 : w.heap.size + 1 < w2.heap.size := by omega); (try have hl2_0_2 : w.heap.size + 2 < w2.heap.size := by omega); (try have hl2_1_0 : w1.heap.size < w2.heap.size := by omega); (try have hm2_1_0 : w1.heap.size ≤ w2.heap.size := by omega); (try have hl2_1_1 : w1.heap.size + 1 < w2.heap.size := by omega); (try have hl2_1_2 : w1.heap.size + 2 < w2.heap.size := by omega)))
  go_ret3
  exact ⟨rfl, (by repeat (first | refine Gr.setCell ?_ (by first | omega | (simp; done) | (simp; omega)) _ | refine Gr.alloc ?_ _ | refine Gr.drew ?_ | refine Gr.drewN ?_ _ | with_reducible assumption | with_reducible exact Gr.refl _ | refine Gr.trans ?_ (by with_reducible assumption)))⟩

set_option maxHeartbeats 1000000 in
theorem rmulDiv_np_no (x n d u : Int) (w : World) (hx : I64 x) (hn : I64 n) (hd : 1 ≤ d ∧ d ≤ 9223372036854775807) (sx : (x<0)) (sn : (0≤n))
    (HT : ∀ w, Calls Tryd.prog 97 #[.int .u64 (mg x), .int .u64 (mg n)] w fun e w' => e = .returned (.agg #[.int .u64 (wH u), .int .u64 (wL u)]) ∧ Gr w w')
    (HO : ∀ w, Calls Tryd.prog 96 #[.agg #[.int .u64 (wH u), .int .u64 (wL u)], .int .u64 d] w fun e w' => e = .returned (.tuple #[.int .u64 0, .int .u64 0, .bool false]) ∧ Gr w w') :
    Calls Tryd.prog 79 #[.int .i64 x, .int .i64 n, .int .i64 d] w fun e w' => e = .returned (.tuple #[.int .i64 0, .int .i64 0, .int .i64 2]) ∧ Gr w w' := by
  have HT := Lib.hid HT
  have HO := Lib.hid HO
  obtain ⟨d1, d2⟩ := hd
  have HX := Lib.hid (fun w => mag_any x w hx.1 hx.2)
  have HN := Lib.hid (fun w => mag_any n w hn.1 hn.2)
  clear hx hn
  have dx : decide (x < 0) = true := by simp; omega
  have dn : decide (n < 0) = false := by simp; omega
  go_enter Tryd.func79, Tryd.ntmps79
  go_wp2_with (first
    | (go_at_call 98; with_reducible refine (HX.out _).mono ?_; rintro e w' ⟨rfl, rfl⟩)
    | (go_at_call 98; with_reducible refine (HN.out _).mono ?_; rintro e w' ⟨rfl, rfl⟩)
    | (go_at_call 97; refine (HT.out _).mono ?_; rintro e w1 ⟨rfl, hg1⟩; obtain ⟨hc1, hf1⟩ := hg1.cells; have hz1 := hg1.size; (try simp at hz1); (try have hl1_0_0 : w.heap.size < w1.heap.size := by omega); (try have hm1_0_0 : w.heap.size ≤ w1.heap.size := by omega); (try have hl1_0_1 : w.heap.size + 1 < w1.heap.size := by omega); (try have hl1_0_2 : w.heap.size + 2 < w1.heap.size := by omega))
    | (go_at_call 96; refine (HO.out _).mono ?_; rintro e w2 ⟨rfl, hg2⟩; obtain ⟨hc2, hf2⟩ := hg2.cells; have hz2 := hg2.size; (try simp at hz2); (try have hl2_0_0 : w.heap.size < w2.heap.size := by omega); (try have hm2_0_0 : w.heap.size ≤ w2.heap.size := by omega); (try have hl2_0_1 : w.heap.size + 1 < w2.heap.size := by omega); (try have hl2_0_2 : w.heap.size + 2 < w2.heap.size := by omega); (try have hl2_1_0 : w1.heap.size < w2.heap.size := by omega); (try have hm2_1_0 : w1.heap.size ≤ w2.heap.size := by omega); (try have hl2_1_1 : w1.heap.size + 1 < w2.heap.size := by omega); (try have hl2_1_2 : w1.heap.size + 2 < w2.heap.size := by omega)))
  go_ret3
  exact ⟨rfl, (by repeat (first | refine Gr.setCell ?_ (by first | omega | (simp; done) | (simp; omega)) _ | refine Gr.alloc ?_ _ | refine Gr.drew ?_ | refine Gr.drewN ?_ _ | with_reducible assumption | with_reducible exact Gr.refl _ | refine Gr.trans ?_ (by with_reducible assumption)))⟩

set_option maxHeartbeats 1000000 in
theorem rmulDiv_nn_over (x n d u q r : Int) (w : World) (hx : I64 x) (hn : I64 n) (hd : 1 ≤ d ∧ d ≤ 9223372036854775807) (sx : (x<0)) (sn : (n<0))
    (hq : 9223372036854775808 < q) (hq2 : q < 18446744073709551616) (hr : 0 ≤ r ∧ r < d)
    (HT : ∀ w, Calls Tryd.prog 97 #[.int .u64 (mg x), .int .u64 (mg n)] w fun e w' => e = .returned (.agg #[.int .u64 (wH u), .int .u64 (wL u)]) ∧ Gr w w')
    (HO : ∀ w, Calls Tryd.prog 96 #[.agg #[.int .u64 (wH u), .int .u64 (wL u)], .int .u64 d] w fun e w' => e = .returned (.tuple #[.int .u64 q, .int .u64 r, .bool true]) ∧ Gr w w') :
    Calls Tryd.prog 79 #[.int .i64 x, .int .i64 n, .int .i64 d] w fun e w' => e = .returned (.tuple #[.int .i64 0, .int .i64 0, .int .i64 2]) ∧ Gr w w' := by
  have HT := Lib.hid HT
  have HO := Lib.hid HO
  obtain ⟨d1, d2⟩ := hd
  obtain ⟨r1, r2⟩ := hr
  have HX := Lib.hid (fun w => mag_any x w hx.1 hx.2)
  have HN := Lib.hid (fun w => mag_any n w hn.1 hn.2)
  clear hx hn
  have dx : decide (x < 0) = true := by simp; omega
  have dn : decide (n < 0) = true := by simp; omega
  go_enter Tryd.func79, Tryd.ntmps79
  go_wp2_with (first
    | (go_at_call 98; with_reducible refine (HX.out _).mono ?_; rintro e w' ⟨rfl, rfl⟩)
    | (go_at_call 98; with_reducible refine (HN.out _).mono ?_; rintro e w' ⟨rfl, rfl⟩)
    | (go_at_call 97; refine (HT.out _).mono ?_; rintro e w1 ⟨rfl, hg1⟩; obtain ⟨hc1, hf1⟩ := hg1.cells; have hz1 := hg1.size; (try simp at hz1); (try have hl1_0_0 : w.heap.size < w1.heap.size := by omega); (try have hm1_0_0 : w.heap.size ≤ w1.heap.size := by omega); (try have hl1_0_1 : w.heap.size + 1 < w1.heap.size := by omega); (try have hl1_0_2 : w.heap.size + 2 < w1.heap.size := by omega))
    | (go_at_call 96; refine (HO.out _).mono ?_; rintro e w2 ⟨rfl, hg2⟩; obtain ⟨hc2, hf2⟩ := hg2.cells; have hz2 := hg2.size; (try simp at hz2); (try have hl2_0_0 : w.heap.size < w2.heap.size := by omega); (try have hm2_0_0 : w.heap.size ≤ w2.heap.size := by omega); (try have hl2_0_1 : w.heap.size + 1 < w2.heap.size := by omega); (try have hl2_0_2 : w.heap.size + 2 < w2.heap.size := by omega); (try have hl2_1_0 : w1.heap.size < w2.heap.size := by omega); (try have hm2_1_0 : w1.heap.size ≤ w2.heap.size := by omega); (try have hl2_1_1 : w1.heap.size + 1 < w2.heap.size := by omega); (try have hl2_1_2 : w1.heap.size + 2 < w2.heap.size := by omega)))
  go_ret3
  exact ⟨rfl, (by repeat (first | refine Gr.setCell ?_ (by first | omega | (simp; done) | (simp; omega)) _ | refine Gr.alloc ?_ _ | refine Gr.drew ?_ | refine Gr.drewN ?_ _ | with_reducible assumption | with_reducible exact Gr.refl _ | refine Gr.trans ?_ (by with_reducible assumption)))⟩

set_option maxHeartbeats 1000000 in
theorem rmulDiv_nn_no (x n d u : Int) (w : World) (hx : I64 x) (hn : I64 n) (hd : 1 ≤ d ∧ d ≤ 9223372036854775807) (sx : (x<0)) (sn : (n<0))
    (HT : ∀ w, Calls Tryd.prog 97 #[.int .u64 (mg x), .int .u64 (mg n)] w fun e w' => e = .returned (.agg #[.int .u64 (wH u), .int .u64 (wL u)]) ∧ Gr w w')
    (HO : ∀ w, Calls Tryd.prog 96 #[.agg #[.int .u64 (wH u), .int .u64 (wL u)], .int .u64 d] w fun e w' => e = .returned (.tuple #[.int .u64 0, .int .u64 0, .bool false]) ∧ Gr w w') :
    Calls Tryd.prog 79 #[.int .i64 x, .int .i64 n, .int .i64 d] w fun e w' => e = .returned (.tuple #[.int .i64 0, .int .i64 0, .int .i64 2]) ∧ Gr w w' := by
  have HT := Lib.hid HT
  have HO := Lib.hid HO
  obtain ⟨d1, d2⟩ := hd
  have HX := Lib.hid (fun w => mag_any x w hx.1 hx.2)
  have HN := Lib.hid (fun w => mag_any n w hn.1 hn.2)
  clear hx hn
  have dx : decide (x < 0) = true := by simp; omega
  have dn : decide (n < 0) = true := by simp; omega
  go_enter Tryd.func79, Tryd.ntmps79
  go_wp2_with (first
    | (go_at_call 98; with_reducible refine (HX.out _).mono ?_; rintro e w' ⟨rfl, rfl⟩)
    | (go_at_call 98; with_reducible refine (HN.out _).mono ?_; rintro e w' ⟨rfl, rfl⟩)
    | (go_at_call 97; refine (HT.out _).mono ?_; rintro e w1 ⟨rfl, hg1⟩; obtain ⟨hc1, hf1⟩ := hg1.cells; have hz1 := hg1.size; (try simp at hz1); (try have hl1_0_0 : w.heap.size < w1.heap.size := by omega); (try have hm1_0_0 : w.heap.size ≤ w1.heap.size := by omega); (try have hl1_0_1 : w.heap.size + 1 < w1.heap.size := by omega); (try have hl1_0_2 : w.heap.size + 2 < w1.heap.size := by omega))
    | (go_at_call 96; refine (HO.out _).mono ?_; rintro e w2 ⟨rfl, hg2⟩; obtain ⟨hc2, hf2⟩ := hg2.cells; have hz2 := hg2.size; (try simp at hz2); (try have hl2_0_0 : w.heap.size < w2.heap.size := by omega); (try have hm2_0_0 : w.heap.size ≤ w2.heap.size := by omega); (try have hl2_0_1 : w.heap.size + 1 < w2.heap.size := by omega); (try have hl2_0_2 : w.heap.size + 2 < w2.heap.size := by omega); (try have hl2_1_0 : w1.heap.size < w2.heap.size := by omega); (try have hm2_1_0 : w1.heap.size ≤ w2.heap.size := by omega); (try have hl2_1_1 : w1.heap.size + 1 < w2.heap.size := by omega); (try have hl2_1_2 : w1.heap.size + 2 < w2.heap.size := by omega)))
  go_ret3
  exact ⟨rfl, (by repeat (first | refine Gr.setCell ?_ (by first | omega | (simp; done) | (simp; omega)) _ | refine Gr.alloc ?_ _ | refine Gr.drew ?_ | refine Gr.drewN ?_ _ | with_reducible assumption | with_reducible exact Gr.refl _ | refine Gr.trans ?_ (by with_reducible assumption)))⟩

set_option maxHeartbeats 1000000 in
theorem rmulDiv_pp_in (x n d u q r Q R Z : Int) (B : Bool) (w : World) (hx : I64 x) (hn : I64 n) (hd : 1 ≤ d ∧ d ≤ 9223372036854775807) (sx : (0≤x)) (sn : (0≤n))
    (hq : q ≤ 9223372036854775808) (hq2 : 0 ≤ q) (hr : 0 ≤ r ∧ r < d) (hQ : Q = q ∧ R = r)
    (HT : ∀ w, Calls Tryd.prog 97 #[.int .u64 (mg x), .int .u64 (mg n)] w fun e w' => e = .returned (.agg #[.int .u64 (wH u), .int .u64 (wL u)]) ∧ Gr w w')
    (HO : ∀ w, Calls Tryd.prog 96 #[.agg #[.int .u64 (wH u), .int .u64 (wL u)], .int .u64 d] w fun e w' => e = .returned (.tuple #[.int .u64 q, .int .u64 r, .bool true]) ∧ Gr w w')
    (HS : ∀ w, Calls Tryd.prog 99 #[.bool false, .int .u64 Q] w fun e w' => e = .returned (.tuple #[.int .i64 Z, .bool B]) ∧ w = w') :
    Calls Tryd.prog 79 #[.int .i64 x, .int .i64 n, .int .i64 d] w fun e w' => e = .returned (.tuple #[.int .i64 (if B then Z else 0), .int .i64 (if B then R else 0), .int .i64 (if B then 0 else 2)]) ∧ Gr w w' := by
  have HT := Lib.hid HT
  have HO := Lib.hid HO
  obtain ⟨d1, d2⟩ := hd
  obtain ⟨r1, r2⟩ := hr
  have HX := Lib.hid (fun w => mag_any x w hx.1 hx.2)
  have HN := Lib.hid (fun w => mag_any n w hn.1 hn.2)
  clear hx hn
  have dx : decide (x < 0) = false := by simp; omega
  have dn : decide (n < 0) = false := by simp; omega
  obtain ⟨rfl, rfl⟩ := hQ
  have HS := Lib.hid HS
  all_goals
    cases B
    all_goals
      go_enter Tryd.func79, Tryd.ntmps79
      go_wp2_with (first
        | (go_at_call 98; with_reducible refine (HX.out _).mono ?_; rintro e w' ⟨rfl, rfl⟩)
        | (go_at_call 98; with_reducible refine (HN.out _).mono ?_; rintro e w' ⟨rfl, rfl⟩)
        | (go_at_call 97; refine (HT.out _).mono ?_; rintro e w1 ⟨rfl, hg1⟩; obtain ⟨hc1, hf1⟩ := hg1.cells; have hz1 := hg1.size; (try simp at hz1); (try have hl1_0_0 : w.heap.size < w1.heap.size := by omega); (try have hm1_0_0 : w.heap.size ≤ w1.heap.size := by omega); (try have hl1_0_1 : w.heap.size + 1 < w1.heap.size := by omega); (try have hl1_0_2 : w.heap.size + 2 < w1.heap.size := by omega))
        | (go_at_call 96; refine (HO.out _).mono ?_; rintro e w2 ⟨rfl, hg2⟩; obtain ⟨hc2, hf2⟩ := hg2.cells; have hz2 := hg2.size; (try simp at hz2); (try have hl2_0_0 : w.heap.size < w2.heap.size := by omega); (try have hm2_0_0 : w.heap.size ≤ w2.heap.size := by omega); (try have hl2_0_1 : w.heap.size + 1 < w2.heap.size := by omega); (try have hl2_0_2 : w.heap.size + 2 < w2.heap.size := by omega); (try have hl2_1_0 : w1.heap.size < w2.heap.size := by omega); (try have hm2_1_0 : w1.heap.size ≤ w2.heap.size := by omega); (try have hl2_1_1 : w1.heap.size + 1 < w2.heap.size := by omega); (try have hl2_1_2 : w1.heap.size + 2 < w2.heap.size := by omega))
        | (go_at_call 99; refine (HS.out _).mono ?_; rintro e w' ⟨rfl, rfl⟩))
      go_ret3
      exact ⟨rfl, (by repeat (first | refine Gr.setCell ?_ (by first | omega | (simp; done) | (simp; omega)) _ | refine Gr.alloc ?_ _ | refine Gr.drew ?_ | refine Gr.drewN ?_ _ | with_reducible assumption | with_reducible exact Gr.refl _ | refine Gr.trans ?_ (by with_reducible assumption)))⟩
set_option maxHeartbeats 1000000 in
theorem rmulDiv_nn_in (x n d u q r Q R Z : Int) (B : Bool) (w : World) (hx : I64 x) (hn : I64 n) (hd : 1 ≤ d ∧ d ≤ 9223372036854775807) (sx : (x<0)) (sn : (n<0))
    (hq : q ≤ 9223372036854775808) (hq2 : 0 ≤ q) (hr : 0 ≤ r ∧ r < d) (hQ : Q = q ∧ R = r)
    (HT : ∀ w, Calls Tryd.prog 97 #[.int .u64 (mg x), .int .u64 (mg n)] w fun e w' => e = .returned (.agg #[.int .u64 (wH u), .int .u64 (wL u)]) ∧ Gr w w')
    (HO : ∀ w, Calls Tryd.prog 96 #[.agg #[.int .u64 (wH u), .int .u64 (wL u)], .int .u64 d] w fun e w' => e = .returned (.tuple #[.int .u64 q, .int .u64 r, .bool true]) ∧ Gr w w')
    (HS : ∀ w, Calls Tryd.prog 99 #[.bool false, .int .u64 Q] w fun e w' => e = .returned (.tuple #[.int .i64 Z, .bool B]) ∧ w = w') :
    Calls Tryd.prog 79 #[.int .i64 x, .int .i64 n, .int .i64 d] w fun e w' => e = .returned (.tuple #[.int .i64 (if B then Z else 0), .int .i64 (if B then R else 0), .int .i64 (if B then 0 else 2)]) ∧ Gr w w' := by
  have HT := Lib.hid HT
  have HO := Lib.hid HO
  obtain ⟨d1, d2⟩ := hd
  obtain ⟨r1, r2⟩ := hr
  have HX := Lib.hid (fun w => mag_any x w hx.1 hx.2)
  have HN := Lib.hid (fun w => mag_any n w hn.1 hn.2)
  clear hx hn
  have dx : decide (x < 0) = true := by simp; omega
  have dn : decide (n < 0) = true := by simp; omega
  obtain ⟨rfl, rfl⟩ := hQ
  have HS := Lib.hid HS
  all_goals
    cases B
    all_goals
      go_enter Tryd.func79, Tryd.ntmps79
      go_wp2_with (first
        | (go_at_call 98; with_reducible refine (HX.out _).mono ?_; rintro e w' ⟨rfl, rfl⟩)
        | (go_at_call 98; with_reducible refine (HN.out _).mono ?_; rintro e w' ⟨rfl, rfl⟩)
        | (go_at_call 97; refine (HT.out _).mono ?_; rintro e w1 ⟨rfl, hg1⟩; obtain ⟨hc1, hf1⟩ := hg1.cells; have hz1 := hg1.size; (try simp at hz1); (try have hl1_0_0 : w.heap.size < w1.heap.size := by omega); (try have hm1_0_0 : w.heap.size ≤ w1.heap.size := by omega); (try have hl1_0_1 : w.heap.size + 1 < w1.heap.size := by omega); (try have hl1_0_2 : w.heap.size + 2 < w1.heap.size := by omega))
        | (go_at_call 96; refine (HO.out _).mono ?_; rintro e w2 ⟨rfl, hg2⟩; obtain ⟨hc2, hf2⟩ := hg2.cells; have hz2 := hg2.size; (try simp at hz2); (try have hl2_0_0 : w.heap.size < w2.heap.size := by omega); (try have hm2_0_0 : w.heap.size ≤ w2.heap.size := by omega); (try have hl2_0_1 : w.heap.size + 1 < w2.heap.size := by omega); (try have hl2_0_2 : w.heap.size + 2 < w2.heap.size := by omega); (try have hl2_1_0 : w1.heap.size < w2.heap.size := by omega); (try have hm2_1_0 : w1.heap.size ≤ w2.heap.size := by omega); (try have hl2_1_1 : w1.heap.size + 1 < w2.heap.size := by omega); (try have hl2_1_2 : w1.heap.size + 2 < w2.heap.size := by omega))
        | (go_at_call 99; refine (HS.out _).mono ?_; rintro e w' ⟨rfl, rfl⟩))
      go_ret3
      exact ⟨rfl, (by repeat (first | refine Gr.setCell ?_ (by first | omega | (simp; done) | (simp; omega)) _ | refine Gr.alloc ?_ _ | refine Gr.drew ?_ | refine Gr.drewN ?_ _ | with_reducible assumption | with_reducible exact Gr.refl _ | refine Gr.trans ?_ (by with_reducible assumption)))⟩
set_option maxHeartbeats 1000000 in
theorem rmulDiv_pn_in (x n d u q r Q R Z : Int) (B : Bool) (w : World) (hx : I64 x) (hn : I64 n) (hd : 1 ≤ d ∧ d ≤ 9223372036854775807) (sx : (0≤x)) (sn : (n<0))
    (hq : q ≤ 9223372036854775808) (hq2 : 0 ≤ q) (hr : 0 ≤ r ∧ r < d) (hQ : (r = 0 ∧ Q = q ∧ R = r) ∨ (0 < r ∧ Q = q + 1 ∧ R = d - r))
    (HT : ∀ w, Calls Tryd.prog 97 #[.int .u64 (mg x), .int .u64 (mg n)] w fun e w' => e = .returned (.agg #[.int .u64 (wH u), .int .u64 (wL u)]) ∧ Gr w w')
    (HO : ∀ w, Calls Tryd.prog 96 #[.agg #[.int .u64 (wH u), .int .u64 (wL u)], .int .u64 d] w fun e w' => e = .returned (.tuple #[.int .u64 q, .int .u64 r, .bool true]) ∧ Gr w w')
    (HS : ∀ w, Calls Tryd.prog 99 #[.bool true, .int .u64 Q] w fun e w' => e = .returned (.tuple #[.int .i64 Z, .bool B]) ∧ w = w') :
    Calls Tryd.prog 79 #[.int .i64 x, .int .i64 n, .int .i64 d] w fun e w' => e = .returned (.tuple #[.int .i64 (if B then Z else 0), .int .i64 (if B then R else 0), .int .i64 (if B then 0 else 2)]) ∧ Gr w w' := by
  have HT := Lib.hid HT
  have HO := Lib.hid HO
  obtain ⟨d1, d2⟩ := hd
  obtain ⟨r1, r2⟩ := hr
  have HX := Lib.hid (fun w => mag_any x w hx.1 hx.2)
  have HN := Lib.hid (fun w => mag_any n w hn.1 hn.2)
  clear hx hn
  have dx : decide (x < 0) = false := by simp; omega
  have dn : decide (n < 0) = true := by simp; omega
  rcases hQ with ⟨rfl, rfl, rfl⟩ | ⟨c', rfl, rfl⟩
  all_goals
    have HS := Lib.hid HS
    cases B
    all_goals
      go_enter Tryd.func79, Tryd.ntmps79
      go_wp2_with (first
        | (go_at_call 98; with_reducible refine (HX.out _).mono ?_; rintro e w' ⟨rfl, rfl⟩)
        | (go_at_call 98; with_reducible refine (HN.out _).mono ?_; rintro e w' ⟨rfl, rfl⟩)
        | (go_at_call 97; refine (HT.out _).mono ?_; rintro e w1 ⟨rfl, hg1⟩; obtain ⟨hc1, hf1⟩ := hg1.cells; have hz1 := hg1.size; (try simp at hz1); (try have hl1_0_0 : w.heap.size < w1.heap.size := by omega); (try have hm1_0_0 : w.heap.size ≤ w1.heap.size := by omega); (try have hl1_0_1 : w.heap.size + 1 < w1.heap.size := by omega); (try have hl1_0_2 : w.heap.size + 2 < w1.heap.size := by omega))
        | (go_at_call 96; refine (HO.out _).mono ?_; rintro e w2 ⟨rfl, hg2⟩; obtain ⟨hc2, hf2⟩ := hg2.cells; have hz2 := hg2.size; (try simp at hz2); (try have hl2_0_0 : w.heap.size < w2.heap.size := by omega); (try have hm2_0_0 : w.heap.size ≤ w2.heap.size := by omega); (try have hl2_0_1 : w.heap.size + 1 < w2.heap.size := by omega); (try have hl2_0_2 : w.heap.size + 2 < w2.heap.size := by omega); (try have hl2_1_0 : w1.heap.size < w2.heap.size := by omega); (try have hm2_1_0 : w1.heap.size ≤ w2.heap.size := by omega); (try have hl2_1_1 : w1.heap.size + 1 < w2.heap.size := by omega); (try have hl2_1_2 : w1.heap.size + 2 < w2.heap.size := by omega))
        | (go_at_call 99; refine (HS.out _).mono ?_; rintro e w' ⟨rfl, rfl⟩))
      go_ret3
      exact ⟨rfl, (by repeat (first | refine Gr.setCell ?_ (by first | omega | (simp; done) | (simp; omega)) _ | refine Gr.alloc ?_ _ | refine Gr.drew ?_ | refine Gr.drewN ?_ _ | with_reducible assumption | with_reducible exact Gr.refl _ | refine Gr.trans ?_ (by with_reducible assumption)))⟩
set_option maxHeartbeats 1000000 in
theorem rmulDiv_np_in (x n d u q r Q R Z : Int) (B : Bool) (w : World) (hx : I64 x) (hn : I64 n) (hd : 1 ≤ d ∧ d ≤ 9223372036854775807) (sx : (x<0)) (sn : (0≤n))
    (hq : q ≤ 9223372036854775808) (hq2 : 0 ≤ q) (hr : 0 ≤ r ∧ r < d) (hQ : (r = 0 ∧ Q = q ∧ R = r) ∨ (0 < r ∧ Q = q + 1 ∧ R = d - r))
    (HT : ∀ w, Calls Tryd.prog 97 #[.int .u64 (mg x), .int .u64 (mg n)] w fun e w' => e = .returned (.agg #[.int .u64 (wH u), .int .u64 (wL u)]) ∧ Gr w w')
    (HO : ∀ w, Calls Tryd.prog 96 #[.agg #[.int .u64 (wH u), .int .u64 (wL u)], .int .u64 d] w fun e w' => e = .returned (.tuple #[.int .u64 q, .int .u64 r, .bool true]) ∧ Gr w w')
    (HS : ∀ w, Calls Tryd.prog 99 #[.bool true, .int .u64 Q] w fun e w' => e = .returned (.tuple #[.int .i64 Z, .bool B]) ∧ w = w') :
    Calls Tryd.prog 79 #[.int .i64 x, .int .i64 n, .int .i64 d] w fun e w' => e = .returned (.tuple #[.int .i64 (if B then Z else 0), .int .i64 (if B then R else 0), .int .i64 (if B then 0 else 2)]) ∧ Gr w w' := by
  have HT := Lib.hid HT
  have HO := Lib.hid HO
  obtain ⟨d1, d2⟩ := hd
  obtain ⟨r1, r2⟩ := hr
  have HX := Lib.hid (fun w => mag_any x w hx.1 hx.2)
  have HN := Lib.hid (fun w => mag_any n w hn.1 hn.2)
  clear hx hn
  have dx : decide (x < 0) = true := by simp; omega
  have dn : decide (n < 0) = false := by simp; omega
  rcases hQ with ⟨rfl, rfl, rfl⟩ | ⟨c', rfl, rfl⟩
  all_goals
    have HS := Lib.hid HS
    cases B
    all_goals
      go_enter Tryd.func79, Tryd.ntmps79
      go_wp2_with (first
        | (go_at_call 98; with_reducible refine (HX.out _).mono ?_; rintro e w' ⟨rfl, rfl⟩)
        | (go_at_call 98; with_reducible refine (HN.out _).mono ?_; rintro e w' ⟨rfl, rfl⟩)
        | (go_at_call 97; refine (HT.out _).mono ?_; rintro e w1 ⟨rfl, hg1⟩; obtain ⟨hc1, hf1⟩ := hg1.cells; have hz1 := hg1.size; (try simp at hz1); (try have hl1_0_0 : w.heap.size < w1.heap.size := by omega); (try have hm1_0_0 : w.heap.size ≤ w1.heap.size := by omega); (try have hl1_0_1 : w.heap.size + 1 < w1.heap.size := by omega); (try have hl1_0_2 : w.heap.size + 2 < w1.heap.size := by omega))
        | (go_at_call 96; refine (HO.out _).mono ?_; rintro e w2 ⟨rfl, hg2⟩; obtain ⟨hc2, hf2⟩ := hg2.cells; have hz2 := hg2.size; (try simp at hz2); (try have hl2_0_0 : w.heap.size < w2.heap.size := by omega); (try have hm2_0_0 : w.heap.size ≤ w2.heap.size := by omega); (try have hl2_0_1 : w.heap.size + 1 < w2.heap.size := by omega); (try have hl2_0_2 : w.heap.size + 2 < w2.heap.size := by omega); (try have hl2_1_0 : w1.heap.size < w2.heap.size := by omega); (try have hm2_1_0 : w1.heap.size ≤ w2.heap.size := by omega); (try have hl2_1_1 : w1.heap.size + 1 < w2.heap.size := by omega); (try have hl2_1_2 : w1.heap.size + 2 < w2.heap.size := by omega))
        | (go_at_call 99; refine (HS.out _).mono ?_; rintro e w' ⟨rfl, rfl⟩))
      go_ret3
      exact ⟨rfl, (by repeat (first | refine Gr.setCell ?_ (by first | omega | (simp; done) | (simp; omega)) _ | refine Gr.alloc ?_ _ | refine Gr.drew ?_ | refine Gr.drewN ?_ _ | with_reducible assumption | with_reducible exact Gr.refl _ | refine Gr.trans ?_ (by with_reducible assumption)))⟩
theorem rmulDiv_arg (x n d : Int) (w : World) (h : ¬ 1 ≤ d) :
    Calls Tryd.prog 79 #[.int .i64 x, .int .i64 n, .int .i64 d] w fun e w' => e = .returned (.tuple #[.int .i64 0, .int .i64 0, .int .i64 1]) ∧ Gr w w' := by
  go_enter Tryd.func79, Tryd.ntmps79
  go_wp2
  go_ret3
  exact ⟨rfl, (by repeat (first | refine Gr.setCell ?_ (by first | omega | (simp; done) | (simp; omega)) _ | refine Gr.alloc ?_ _ | refine Gr.drew ?_ | refine Gr.drewN ?_ _ | with_reducible assumption | with_reducible exact Gr.refl _ | refine Gr.trans ?_ (by with_reducible assumption)))⟩
end Go.Proofs.YtckmebfgianeoaaDoor
