/-
  Contracts of Usable and suitable of the references.
  Conditions: the rate's numbers are int64.
-/
import Derived.Test.YtckmebfgianeoaaDoorWalkSu
import Derived.Test.YtckmebfgianeoaaDoorKit
namespace Go.Proofs.YtckmebfgianeoaaDoor
open Go.RowKit Go.Lib
set_option linter.unusedSimpArgs false
set_option linter.unusedVariables false

set_option maxHeartbeats 1000000 in
theorem rusable_any (n d : Int) (w : World) (hn : I64 n) (hd : I64 d) :
    Calls Tryd.prog 31 #[.agg #[.int .i64 n, .int .i64 d]] w fun e w' => e = .returned (.bool (usB n d)) ∧ Gr w w' := by
  by_cases hr : 1 ≤ n ∧ n ≤ 1048576 ∧ 1 ≤ d ∧ d ≤ 65536
  · obtain ⟨a1, a2, a3, a4⟩ := hr
    have q1 : decide (n < 1) = false := decide_eq_false (by omega)
    have q2 : decide (1048576 < n) = false := decide_eq_false (by omega)
    have q3 : decide (d < 1) = false := decide_eq_false (by omega)
    have q4 : decide (65536 < d) = false := decide_eq_false (by omega)
    have hU : usB n d = decide (gc n d = 1) := by
      unfold usB vB
      rw [decide_eq_true (by omega : 1 ≤ n ∧ n ≤ 1048576 ∧ d ≤ 65536), Bool.and_true]
      exact decide_eq_decide.2 ⟨fun h => h.2.2, fun h => ⟨a3, by omega, h⟩⟩
    rw [hU]
    obtain ⟨G, hG⟩ : ∃ G, gc n d = G := ⟨_, rfl⟩
    rw [hG]
    have hG := Lib.hid hG
    go_enter Tryd.func31, Tryd.ntmps31
    go_wp2
    have hb := (Cel.new w #[.int .i64 n, .int .i64 d] 47).drew
    refine wp_region_still (Keep 6 (fun x => Cel x w.heap.size [.int .i64 n, .int .i64 d])) 6 rfl (by kernel_rfl) ?_
    show stillAny _ _ _ _ _ _ #[false, false, false, false, false, false] _ _
    refine still_pure 0 (v := .pointer (some ⟨w.heap.size, 0, none⟩)) rfl (by kernel_rfl) (by kernel_rfl) (by kernel_rfl) (fun _ => hb) rfl (fun w hw => ?_) ?_
    · simp [execOp, go_sem] <;> (intros; omega)
    simp only [Act.put, List.setIfInBounds_toArray, List.set_cons_succ, List.set_cons_zero]
    refine still_pure 1 (v := .int .i64 n) rfl (by kernel_rfl) (by kernel_rfl) (by kernel_rfl) (fun _ => hb) rfl (fun w hw => ?_) ?_
    · replace hw := hw (by decide)
      have hq0 := (hw.two).2.1
      (try simp at hq0)
      simp [execOp, go_sem, hq0]
    simp only [Act.put, List.setIfInBounds_toArray, List.set_cons_succ, List.set_cons_zero]
    refine still_pure 2 (v := .pointer (some ⟨w.heap.size, 1, none⟩)) rfl (by kernel_rfl) (by kernel_rfl) (by kernel_rfl) (fun _ => hb) rfl (fun w hw => ?_) ?_
    · simp [execOp, go_sem] <;> (intros; omega)
    simp only [Act.put, List.setIfInBounds_toArray, List.set_cons_succ, List.set_cons_zero]
    refine still_pure 3 (v := .int .i64 d) rfl (by kernel_rfl) (by kernel_rfl) (by kernel_rfl) (fun _ => hb) rfl (fun w hw => ?_) ?_
    · replace hw := hw (by decide)
      have hq0 := (hw.two).2.2.1
      (try simp at hq0)
      simp [execOp, go_sem, hq0]
    simp only [Act.put, List.setIfInBounds_toArray, List.set_cons_succ, List.set_cons_zero]
    refine still_pure 4 (v := .int .i64 n) rfl (by kernel_rfl) (by kernel_rfl) (by kernel_rfl) (fun _ => hb) rfl (fun w hw => ?_) ?_
    · simp [execOp, go_sem] <;> (intros; omega)
    simp only [Act.put, List.setIfInBounds_toArray, List.set_cons_succ, List.set_cons_zero]
    refine still_pure 5 (v := .int .i64 d) rfl (by kernel_rfl) (by kernel_rfl) (by kernel_rfl) (fun _ => hb) rfl (fun w hw => ?_) ?_
    · simp [execOp, go_sem] <;> (intros; omega)
    simp only [Act.put, List.setIfInBounds_toArray, List.set_cons_succ, List.set_cons_zero]
    refine still_done (by kernel_rfl) ?_
    go_wp2
    have hg0 : Gr w (w.alloc (.cells #[.int .i64 n, .int .i64 d] 47)).drew := ((Gr.refl w).alloc _).drew
    go_loopw [3, 4] (fun a b wr => ∃ x y : Int, a = .int .i64 x ∧ b = .int .i64 y ∧ 0 ≤ x ∧ x ≤ 1048576 ∧ 0 ≤ y ∧ y ≤ 1048576 ∧ Gr w wr ∧ Hid (gc x y = G)) (fun _ b _ => (RowKit.intOf b).toNat)
    case atStart => exact ⟨n, d, rfl, rfl, by omega, a2, by omega, by omega, hg0, hG⟩
    case round =>
      obtain ⟨x, y, rfl, rfl, x0, x1, y0, y1, hg, hno⟩ := hrel
      clear hG
      by_cases c : y = 0
      · have g1 : (y != 0) = false := by simp [c]
        have hx : x = G := by have := hno.out; rwa [c, gc_zero x x0] at this
        subst c
        clear hno hG
        subst hx
        go_wp2
        go_ret
        exact ⟨ret_bool (by first | rfl | (simp; done) | (cases h : decide (x = 1) <;> simp_all)), hg⟩
      · have g1 : (y != 0) = true := by simp [c]
        have m0 : 0 ≤ x % y := Int.emod_nonneg _ c
        have m1 : x % y < y := Int.emod_lt_of_pos _ (by omega)
        have hx : Hid (gc y (x % y) = G) := by refine Lib.hid ?_; rw [gc_step x y x0 y0]; exact hno.out
        clear hno
        go_wp2
        go_region
        go_wp2
        go_roundw
        case rel => exact ⟨y, x % y, rfl, rfl, y0, y1, m0, by omega, hg.drew, hx⟩
        case measure => simp [RowKit.intOf]; omega
  · have hU : usB n d = false := by
      unfold usB vB
      cases h : (decide (1 ≤ d ∧ -9223372036854775808 < n ∧ gc n d = 1) && decide (1 ≤ n ∧ n ≤ 1048576 ∧ d ≤ 65536)) with
      | false => rfl
      | true =>
        rw [Bool.and_eq_true, decide_eq_true_eq, decide_eq_true_eq] at h
        exact absurd ⟨h.2.1, h.2.2.1, h.1.1, h.2.2.2⟩ hr
    rw [hU]
    rcases (show n < 1 ∨ (1 ≤ n ∧ 1048576 < n) ∨ (1 ≤ n ∧ n ≤ 1048576 ∧ d < 1) ∨ (1 ≤ n ∧ n ≤ 1048576 ∧ 1 ≤ d ∧ 65536 < d) by omega) with h | ⟨h1, h⟩ | ⟨h1, h2, h⟩ | ⟨h1, h2, h3, h⟩
    · have q1 : decide (n < 1) = true := decide_eq_true h
      go_enter Tryd.func31, Tryd.ntmps31
      go_wp2
      go_ret
      exact ⟨rfl, (by repeat (first | with_reducible exact Gr.refl _ | with_reducible assumption | refine Gr.setCell ?_ (by first | omega | (simp; done) | (simp; omega)) _ | refine Gr.alloc ?_ _ | refine Gr.drew ?_ | refine Gr.drewN ?_ _ | refine Gr.trans ?_ (by with_reducible assumption)))⟩
    · have q1 : decide (n < 1) = false := decide_eq_false (by omega); have q2 : decide (1048576 < n) = true := decide_eq_true h
      go_enter Tryd.func31, Tryd.ntmps31
      go_wp2
      go_ret
      exact ⟨rfl, (by repeat (first | with_reducible exact Gr.refl _ | with_reducible assumption | refine Gr.setCell ?_ (by first | omega | (simp; done) | (simp; omega)) _ | refine Gr.alloc ?_ _ | refine Gr.drew ?_ | refine Gr.drewN ?_ _ | refine Gr.trans ?_ (by with_reducible assumption)))⟩
    · have q1 : decide (n < 1) = false := decide_eq_false (by omega); have q2 : decide (1048576 < n) = false := decide_eq_false (by omega); have q3 : decide (d < 1) = true := decide_eq_true h
      go_enter Tryd.func31, Tryd.ntmps31
      go_wp2
      go_ret
      exact ⟨rfl, (by repeat (first | with_reducible exact Gr.refl _ | with_reducible assumption | refine Gr.setCell ?_ (by first | omega | (simp; done) | (simp; omega)) _ | refine Gr.alloc ?_ _ | refine Gr.drew ?_ | refine Gr.drewN ?_ _ | refine Gr.trans ?_ (by with_reducible assumption)))⟩
    · have q1 : decide (n < 1) = false := decide_eq_false (by omega); have q2 : decide (1048576 < n) = false := decide_eq_false (by omega); have q3 : decide (d < 1) = false := decide_eq_false (by omega); have q4 : decide (65536 < d) = true := decide_eq_true h
      go_enter Tryd.func31, Tryd.ntmps31
      go_wp2
      go_ret
      exact ⟨rfl, (by repeat (first | with_reducible exact Gr.refl _ | with_reducible assumption | refine Gr.setCell ?_ (by first | omega | (simp; done) | (simp; omega)) _ | refine Gr.alloc ?_ _ | refine Gr.drew ?_ | refine Gr.drewN ?_ _ | refine Gr.trans ?_ (by with_reducible assumption)))⟩
theorem rsuitable_any (n d : Int) (w : World) (hn : I64 n) (hd : I64 d) :
    Calls Tryd.prog 52 #[.agg #[.int .i64 n, .int .i64 d]] w fun e w' => e = .returned (.bool (suB n d)) ∧ Gr w w' := by
  have HV := Lib.hid (fun w => rusable_any n d w hn hd)
  have hnew := Cel.new w #[.int .i64 n, .int .i64 d] 47
  unfold suB
  cases hv : usB n d with
  | false =>
    rw [hv] at HV
    go_enter Tryd.func52, Tryd.ntmps52
    go_wp2_with (go_at_call 31; (with_reducible refine (HV.out _).mono ?_); rintro e w1 ⟨rfl, hg1⟩)
    go_ret
    exact ⟨rfl, (by repeat (first | with_reducible exact Gr.refl _ | with_reducible assumption | refine Gr.setCell ?_ (by first | omega | (simp; done) | (simp; omega)) _ | refine Gr.alloc ?_ _ | refine Gr.drew ?_ | refine Gr.drewN ?_ _ | refine Gr.trans ?_ (by with_reducible assumption)))⟩
  | true =>
    have hb : 1 ≤ n ∧ n ≤ 1048576 ∧ d ≤ 65536 := by unfold usB at hv; simp only [Bool.and_eq_true, decide_eq_true_eq] at hv; exact hv.2
    have hb2 : 1 ≤ d := by unfold usB at hv; simp only [Bool.and_eq_true] at hv; exact (vB_inv hv.1).1
    rw [hv] at HV
    rw [Bool.true_and]
    obtain ⟨b, hbb⟩ : ∃ b, decide (n ≤ 240 * d) = b := ⟨_, rfl⟩
    rw [hbb]
    go_enter Tryd.func52, Tryd.ntmps52
    go_wp2_with (go_at_call 31; (with_reducible refine (HV.out _).mono ?_); rintro e w1 ⟨rfl, hg1⟩; have hc1 := hnew.gr hg1; have hc2 := hc1.two; obtain ⟨x0, x1, x2, x3, x4⟩ := hc2)
    go_ret
    exact ⟨rfl, (by repeat (first | with_reducible exact Gr.refl _ | with_reducible assumption | refine Gr.setCell ?_ (by first | omega | (simp; done) | (simp; omega)) _ | refine Gr.alloc ?_ _ | refine Gr.drew ?_ | refine Gr.drewN ?_ _ | refine Gr.trans ?_ (by with_reducible assumption)))⟩
end Go.Proofs.YtckmebfgianeoaaDoor
