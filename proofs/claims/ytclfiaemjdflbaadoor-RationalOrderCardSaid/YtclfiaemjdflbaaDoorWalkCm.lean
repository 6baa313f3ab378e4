/-
  Contract of Cmp of package rational.
  Conditions: the arguments are integers of their kinds; the variable orders holds what its text lays.
-/
import Derived.Test.YtclfiaemjdflbaaDoorWalkR
import Derived.Test.YtclfiaemjdflbaaDoorWalkC2
import Derived.Test.YtclfiaemjdflbaaDoorCel
import Derived.Laws.Rows
import Derived.Deep.DeepCutAuto
namespace Go.Proofs.YtclfiaemjdflbaaDoor
open Go.RowKit
set_option linter.unusedSimpArgs false
set_option linter.unusedVariables false

/-- the sign of a number -/
def sg (x : Int) : Int := if x < 0 then -1 else if 0 < x then 1 else 0
set_option maxHeartbeats 400000 in
theorem sign_any (x : Int) (w : World) : Calls Tryd.prog 18 #[.int .i64 x] w fun e w' => e = .returned (.int .i64 (sg x)) ∧ w = w' := by
  rcases (show x < 0 ∨ (¬ x < 0 ∧ 0 < x) ∨ (¬ x < 0 ∧ ¬ 0 < x) by omega) with h | ⟨h, h'⟩ | ⟨h, h'⟩
  · rw [show sg x = -1 by unfold sg; rw [if_pos h]]
    have d1 : decide (x < 0) = true := decide_eq_true h
    go_enter Tryd.func18, Tryd.ntmps18
    go_wp2
    go_ret
    exact ⟨rfl, rfl⟩
  · rw [show sg x = 1 by unfold sg; rw [if_neg h, if_pos h']]
    have d1 : decide (x < 0) = false := decide_eq_false h
    have d2 : decide (0 < x) = true := decide_eq_true h'
    go_enter Tryd.func18, Tryd.ntmps18
    go_wp2
    go_ret
    exact ⟨rfl, rfl⟩
  · rw [show sg x = 0 by unfold sg; rw [if_neg h, if_neg h']]
    have d1 : decide (x < 0) = false := decide_eq_false h
    have d2 : decide (0 < x) = false := decide_eq_false h'
    go_enter Tryd.func18, Tryd.ntmps18
    go_wp2
    go_ret
    exact ⟨rfl, rfl⟩
set_option maxHeartbeats 400000 in
theorem wsign_any (v : Int) (w : World) (hf : Fit v) : Calls Tryd.prog 21 #[.agg #[.bool (wN v), .int .u64 (wH v), .int .u64 (wL v)]] w fun e w' => e = .returned (.int .i64 (sg v)) ∧ Gr w w' := by
  have b1 := wH_nonneg v
  have b2 := wL_nonneg v
  have b3 := wL_lt v
  have b4 := wH_lt hf
  have ho := or_ne_zero (wH v) (wL v) b1 b4 b2 b3
  rw [words_zero v] at ho
  rcases Int.lt_trichotomy v 0 with h | h | h
  · rw [show sg v = -1 by unfold sg; rw [if_pos h], show wN v = true from decide_eq_true h]
    clear ho
    go_enter Tryd.func21, Tryd.ntmps21
    go_wp2
    go_ret
    exact ⟨rfl, (by repeat (first | refine Gr.setCell ?_ (by first | omega | (simp; done) | (simp; omega)) _ | refine Gr.alloc ?_ _ | refine Gr.drew ?_ | refine Gr.drewN ?_ _ | with_reducible assumption | with_reducible exact Gr.refl _ | refine Gr.trans ?_ (by with_reducible assumption)))⟩
  · rw [show sg v = 0 by unfold sg; rw [if_neg (by omega), if_neg (by omega)], show wN v = false from decide_eq_false (by omega)]
    rw [decide_eq_true h] at ho
    go_enter Tryd.func21, Tryd.ntmps21
    go_wp2
    go_ret
    exact ⟨rfl, (by repeat (first | refine Gr.setCell ?_ (by first | omega | (simp; done) | (simp; omega)) _ | refine Gr.alloc ?_ _ | refine Gr.drew ?_ | refine Gr.drewN ?_ _ | with_reducible assumption | with_reducible exact Gr.refl _ | refine Gr.trans ?_ (by with_reducible assumption)))⟩
  · rw [show sg v = 1 by unfold sg; rw [if_neg (by omega), if_pos h], show wN v = false from decide_eq_false (by omega)]
    rw [decide_eq_false (by omega)] at ho
    go_enter Tryd.func21, Tryd.ntmps21
    go_wp2
    go_ret
    exact ⟨rfl, (by repeat (first | refine Gr.setCell ?_ (by first | omega | (simp; done) | (simp; omega)) _ | refine Gr.alloc ?_ _ | refine Gr.drew ?_ | refine Gr.drewN ?_ _ | with_reducible assumption | with_reducible exact Gr.refl _ | refine Gr.trans ?_ (by with_reducible assumption)))⟩

/-- what the variable orders holds -/
def ordT : Array Value := #[.int .i64 (-1), .int .i64 0, .int .i64 (-1), .int .i64 (-1), .int .i64 1, .int .i64 (-1), .int .i64 0, .int .i64 1, .int .i64 (-1), .int .i64 0, .int .i64 0, .int .i64 0, .int .i64 0, .int .i64 (-1), .int .i64 1, .int .i64 1, .int .i64 (-1), .int .i64 1, .int .i64 1, .int .i64 0, .int .i64 1]
def Ords (w : World) : Prop := ∃ t fr, w.heap[0]? = some (.cells ordT t fr)
theorem Ords.gr {W w : World} (hg : Gr W w) (h : Ords W) : Ords w := by
  obtain ⟨t, fr, h⟩ := h
  exact ⟨t, fr, by rw [Below.block hg 0 (lt_of_block h)]; exact h⟩

/-- the pairs of signs before place k of the table -/
def ahead (k : Nat) (s t : Int) : Prop := (s = -1 ∧ t = 0 ∧ 0 < k) ∨ (s = -1 ∧ t = 1 ∧ 1 < k) ∨ (s = 0 ∧ t = 1 ∧ 2 < k) ∨ (s = 0 ∧ t = 0 ∧ 3 < k) ∨ (s = 0 ∧ t = -1 ∧ 4 < k) ∨ (s = 1 ∧ t = -1 ∧ 5 < k) ∨ (s = 1 ∧ t = 0 ∧ 6 < k)

/-- how two signs compare, but those that are equal and not zero -/
def tabR (s t : Int) : Int := if s < t then -1 else if s = t then 0 else 1

set_option maxRecDepth 100000 in
set_option maxHeartbeats 8000000 in
theorem cmp_core (an ad bn bd s1 s2 R v u x : Int) (w : World) (hO : Ords w) (hw0 : 0 < w.heap.size) (hbn : -9223372036854775808 < bn) (hbn2 : bn ≤ 9223372036854775807) (h1 : s1 = -1 ∨ s1 = 0 ∨ s1 = 1) (h2 : s2 = -1 ∨ s2 = 0 ∨ s2 = 1)
    (hR : (¬ (s1 = s2 ∧ s1 ≠ 0) ∧ R = tabR s1 s2) ∨ ((s1 = s2 ∧ s1 ≠ 0) ∧ R = sg x))
    (HA : ∀ w, Calls Tryd.prog 17 #[.agg #[.int .i64 an, .int .i64 ad]] w fun e w' => e = .returned (.bool true) ∧ Gr w w')
    (HB : ∀ w, Calls Tryd.prog 17 #[.agg #[.int .i64 bn, .int .i64 bd]] w fun e w' => e = .returned (.bool true) ∧ Gr w w')
    (HS1 : ∀ w, Calls Tryd.prog 18 #[.int .i64 an] w fun e w' => e = .returned (.int .i64 s1) ∧ w = w')
    (HS2 : ∀ w, Calls Tryd.prog 18 #[.int .i64 bn] w fun e w' => e = .returned (.int .i64 s2) ∧ w = w')
    (HP1 : ∀ w, Calls Tryd.prog 19 #[.int .i64 an, .int .i64 bd] w fun e w' => e = .returned (.agg #[.bool (wN v), .int .u64 (wH v), .int .u64 (wL v)]) ∧ Gr w w')
    (HP2 : ∀ w, Calls Tryd.prog 19 #[.int .i64 (-bn), .int .i64 ad] w fun e w' => e = .returned (.agg #[.bool (wN u), .int .u64 (wH u), .int .u64 (wL u)]) ∧ Gr w w')
    (HS : ∀ w, Calls Tryd.prog 20 #[.agg #[.bool (wN v), .int .u64 (wH v), .int .u64 (wL v)], .agg #[.bool (wN u), .int .u64 (wH u), .int .u64 (wL u)]] w fun e w' => e = .returned (.agg #[.bool (wN x), .int .u64 (wH x), .int .u64 (wL x)]) ∧ Gr w w')
    (HG : ∀ w, Calls Tryd.prog 21 #[.agg #[.bool (wN x), .int .u64 (wH x), .int .u64 (wL x)]] w fun e w' => e = .returned (.int .i64 (sg x)) ∧ Gr w w') :
    Calls Tryd.prog 8 #[.agg #[.int .i64 an, .int .i64 ad], .agg #[.int .i64 bn, .int .i64 bd]] w fun e w' => e = .returned (.int .i64 R) ∧ Gr w w' := by
  have i0 : ∀ w, (Instr.index 40 (.agg ordT) (.int .i64 0)).run Tryd.prog w = .ok (.agg #[.int .i64 (-1), .int .i64 0, .int .i64 (-1)]) w := fun _ => by kernel_rfl
  have i1 : ∀ w, (Instr.index 40 (.agg ordT) (.int .i64 1)).run Tryd.prog w = .ok (.agg #[.int .i64 (-1), .int .i64 1, .int .i64 (-1)]) w := fun _ => by kernel_rfl
  have i2 : ∀ w, (Instr.index 40 (.agg ordT) (.int .i64 2)).run Tryd.prog w = .ok (.agg #[.int .i64 0, .int .i64 1, .int .i64 (-1)]) w := fun _ => by kernel_rfl
  have i3 : ∀ w, (Instr.index 40 (.agg ordT) (.int .i64 3)).run Tryd.prog w = .ok (.agg #[.int .i64 0, .int .i64 0, .int .i64 0]) w := fun _ => by kernel_rfl
  have i4 : ∀ w, (Instr.index 40 (.agg ordT) (.int .i64 4)).run Tryd.prog w = .ok (.agg #[.int .i64 0, .int .i64 (-1), .int .i64 1]) w := fun _ => by kernel_rfl
  have i5 : ∀ w, (Instr.index 40 (.agg ordT) (.int .i64 5)).run Tryd.prog w = .ok (.agg #[.int .i64 1, .int .i64 (-1), .int .i64 1]) w := fun _ => by kernel_rfl
  have i6 : ∀ w, (Instr.index 40 (.agg ordT) (.int .i64 6)).run Tryd.prog w = .ok (.agg #[.int .i64 1, .int .i64 0, .int .i64 1]) w := fun _ => by kernel_rfl
  have HA := Lib.hid HA
  have HB := Lib.hid HB
  have HS1 := Lib.hid HS1
  have HS2 := Lib.hid HS2
  have HP1 := Lib.hid HP1
  have HP2 := Lib.hid HP2
  have HS := Lib.hid HS
  have HG := Lib.hid HG
  have HR := Lib.hid hR
  clear hR
  go_enter Tryd.func8, Tryd.ntmps8
  go_wp2_with (first
    | (go_at_call 17; with_reducible refine (HA.out _).mono ?_; rintro e w1 ⟨rfl, hg1⟩; obtain ⟨hc1, hf1⟩ := hg1.cells; have hz1 := hg1.size; (try simp at hz1); (try have hl1_0_0 : w.heap.size < w1.heap.size := by omega); (try have hm1_0_0 : w.heap.size ≤ w1.heap.size := by omega); (try have hl1_0_1 : w.heap.size + 1 < w1.heap.size := by omega); (try have hl1_0_2 : w.heap.size + 2 < w1.heap.size := by omega))
    | (go_at_call 17; with_reducible refine (HB.out _).mono ?_; rintro e w2 ⟨rfl, hg2⟩; obtain ⟨hc2, hf2⟩ := hg2.cells; have hz2 := hg2.size; (try simp at hz2); (try have hl2_0_0 : w.heap.size < w2.heap.size := by omega); (try have hm2_0_0 : w.heap.size ≤ w2.heap.size := by omega); (try have hl2_0_1 : w.heap.size + 1 < w2.heap.size := by omega); (try have hl2_0_2 : w.heap.size + 2 < w2.heap.size := by omega); (try have hl2_1_0 : w1.heap.size < w2.heap.size := by omega); (try have hm2_1_0 : w1.heap.size ≤ w2.heap.size := by omega); (try have hl2_1_1 : w1.heap.size + 1 < w2.heap.size := by omega); (try have hl2_1_2 : w1.heap.size + 2 < w2.heap.size := by omega)))
  refine wp_region_made1 7 (.cells #[.int .i64 0, .int .i64 0] 38) _ (by kernel_rfl) (by kernel_rfl) rfl rfl (fun a w => by simp [execOp, go_sem]) (fun B hB hq1 hq2 => ?_)
  simp only [List.take_succ_cons, List.take_zero, List.drop_succ_cons, List.drop_zero]
  repeat (first | go_big_quiet_skip | (go_big_quiet_want; go_big_quiet_op; first | go_big_quiet_on | (apply Exists.intro; refine ⟨fun _ => ?_, ?_⟩; (· (first | (go_at_call 18; with_reducible exact gr_call_same (HS1.out _)) | (go_at_call 18; with_reducible exact gr_call_same (HS2.out _)))); go_big_quiet_on)))
  refine wpQuiet_nil ?_
  clear hq1 hq2 hB
  rintro P w3 hg3 hs3_P hb3_P
  obtain ⟨hc3, hf3⟩ := hg3.cells
  have hz3 := hg3.size
  (try simp at hz3); (try have hl3_0_0 : w.heap.size < w3.heap.size := by omega); (try have hm3_0_0 : w.heap.size ≤ w3.heap.size := by omega); (try have hl3_0_1 : w.heap.size + 1 < w3.heap.size := by omega); (try have hl3_0_2 : w.heap.size + 2 < w3.heap.size := by omega); (try have hl3_1_0 : w1.heap.size < w3.heap.size := by omega); (try have hm3_1_0 : w1.heap.size ≤ w3.heap.size := by omega); (try have hl3_1_1 : w1.heap.size + 1 < w3.heap.size := by omega); (try have hl3_1_2 : w1.heap.size + 2 < w3.heap.size := by omega); (try have hl3_2_0 : w2.heap.size < w3.heap.size := by omega); (try have hm3_2_0 : w2.heap.size ≤ w3.heap.size := by omega); (try have hl3_2_1 : w2.heap.size + 1 < w3.heap.size := by omega); (try have hl3_2_2 : w2.heap.size + 2 < w3.heap.size := by omega)
  (try simp at hs3_P)
  have hx3_P : P < w3.heap.size := lt_of_block hb3_P
  have hy3_P_0 := cells_of_block hb3_P 0
  have hv3_P_0 := mark_of_block hb3_P 0
  have hy3_P_1 := cells_of_block hb3_P 1
  have hv3_P_1 := mark_of_block hb3_P 1
  simp at hy3_P_0 hy3_P_1
  have hPl : w.heap.size + 1 < P := by omega
  have cP : Cel ((w3.setCell ⟨P, 0, none⟩ (.int .i64 s1)).setCell ⟨P, 1, none⟩ (.int .i64 s2)) P [.int .i64 s1, .int .i64 s2] := ((Cel.mk2 hx3_P hy3_P_0 hy3_P_1 hv3_P_0 hv3_P_1).set (k := 0) (by simp) _).set (k := 1) (by simp) _
  have gP : Gr ((w.alloc (.cells #[.int .i64 an, .int .i64 ad] 23)).alloc (.cells #[.int .i64 bn, .int .i64 bd] 23)) ((w3.setCell ⟨P, 0, none⟩ (.int .i64 s1)).setCell ⟨P, 1, none⟩ (.int .i64 s2)) := by
    have hb : Gr ((w.alloc (.cells #[.int .i64 an, .int .i64 ad] 23)).alloc (.cells #[.int .i64 bn, .int .i64 bd] 23)) w3 := hg1.trans (hg2.trans hg3)
    exact (hb.setCell (by simp; omega) _).setCell (by simp; omega) _
  go_upto_region 4 with fail
  refine wp_gen (R := fun V => Cel V P [.int .i64 s1, .int .i64 s2] ∧ Gr ((w.alloc (.cells #[.int .i64 an, .int .i64 ad] 23)).alloc (.cells #[.int .i64 bn, .int .i64 bd] 23)) V) ⟨cP, gP⟩ ?_
  clear cP gP hy3_P_0 hy3_P_1 hv3_P_0 hv3_P_1 hb3_P hc1 hc2 hc3 hf1 hf2 hf3
  rintro V ⟨cV, gV⟩
  obtain ⟨t0, fr, hrow⟩ := Ords.gr gV (((hO.gr ((Gr.refl w).alloc _))).gr ((Gr.refl _).alloc _))
  go_wp2_with (refine wpList_load_row rfl 40 _ rfl 0 rfl t0 ordT fr _ hrow Tryd.underlying40 rfl (by kernel_rfl) ?_)
  go_loopw [24] (fun i wr => ∃ k : Nat, k ≤ 7 ∧ i = .int .i64 k ∧ Hid (¬ ahead k s1 s2) ∧ Gr V wr) (fun i _ => 7 - (intOf i).toNat)
  case atStart => exact ⟨0, by omega, rfl, (by unfold ahead; omega : ¬ ahead 0 s1 s2), Gr.refl _⟩
  case round =>
    obtain ⟨k, hk, rfl, hno, hg⟩ := hrel
    have cW := cV.gr hg
    have gW := gV.trans hg
    obtain ⟨hxP, hyP0, hyP1, hvP0, hvP1⟩ := cW.two
    obtain ⟨hcb, hfb⟩ := gW.cells
    have hzb := gW.size
    simp at hzb
    have hl0 : w.heap.size < wr.heap.size := by omega
    have hl1 : w.heap.size + 1 < wr.heap.size := by omega
    rcases (show k = 0 ∨ k = 1 ∨ k = 2 ∨ k = 3 ∨ k = 4 ∨ k = 5 ∨ k = 6 ∨ k = 7 by omega) with rfl | rfl | rfl | rfl | rfl | rfl | rfl | rfl
    · rcases (show (s1 = (-1) ∧ s2 = 0) ∨ (s1 ≠ (-1)) ∨ (s1 = (-1) ∧ s2 ≠ 0) by omega) with ⟨rfl, rfl⟩ | hne | ⟨rfl, hne⟩
      · have hV : R = (-1) := by rcases HR.out with ⟨_, e⟩ | ⟨hn, _⟩; (rw [e]; rfl); (exfalso; omega)
        subst hV
        clear hno
        go_wp2_with fail
        go_ret
        exact ⟨rfl, (by repeat (first | with_reducible exact Gr.refl _ | with_reducible assumption | refine Gr.setCell ?_ (by first | omega | (simp; done) | (simp; omega)) _ | refine Gr.alloc ?_ _ | refine Gr.drew ?_ | refine Gr.drewN ?_ _ | refine Gr.trans ?_ (by with_reducible assumption)))⟩
      · have HN : Hid (¬ ahead (0 + 1) s1 s2) := (by have := hno.out; unfold ahead at *; omega : ¬ ahead (0 + 1) s1 s2)
        have q1 : ((-1) == s1) = false := by simp; omega
        have q2 : (s1 == (-1)) = false := by simp; omega
        clear hno hne
        go_wp2_with fail
        go_roundw
        case rel => exact ⟨0 + 1, by omega, rfl, HN, (by repeat (first | with_reducible exact Gr.refl _ | with_reducible assumption | refine Gr.setCell ?_ (by first | omega | (simp; done) | (simp; omega)) _ | refine Gr.alloc ?_ _ | refine Gr.drew ?_ | refine Gr.drewN ?_ _ | refine Gr.trans ?_ (by with_reducible assumption)))⟩
        case measure => simp [intOf]
      · have HN : Hid (¬ ahead (0 + 1) (-1) s2) := (by have := hno.out; unfold ahead at *; omega : ¬ ahead (0 + 1) (-1) s2)
        have q1 : (0 == s2) = false := by simp; omega
        have q2 : (s2 == 0) = false := by simp; omega
        clear hno hne
        go_wp2_with fail
        go_roundw
        case rel => exact ⟨0 + 1, by omega, rfl, HN, (by repeat (first | with_reducible exact Gr.refl _ | with_reducible assumption | refine Gr.setCell ?_ (by first | omega | (simp; done) | (simp; omega)) _ | refine Gr.alloc ?_ _ | refine Gr.drew ?_ | refine Gr.drewN ?_ _ | refine Gr.trans ?_ (by with_reducible assumption)))⟩
        case measure => simp [intOf]
    · rcases (show (s1 = (-1) ∧ s2 = 1) ∨ (s1 ≠ (-1)) ∨ (s1 = (-1) ∧ s2 ≠ 1) by omega) with ⟨rfl, rfl⟩ | hne | ⟨rfl, hne⟩
      · have hV : R = (-1) := by rcases HR.out with ⟨_, e⟩ | ⟨hn, _⟩; (rw [e]; rfl); (exfalso; omega)
        subst hV
        clear hno
        go_wp2_with fail
        go_ret
        exact ⟨rfl, (by repeat (first | with_reducible exact Gr.refl _ | with_reducible assumption | refine Gr.setCell ?_ (by first | omega | (simp; done) | (simp; omega)) _ | refine Gr.alloc ?_ _ | refine Gr.drew ?_ | refine Gr.drewN ?_ _ | refine Gr.trans ?_ (by with_reducible assumption)))⟩
      · have HN : Hid (¬ ahead (1 + 1) s1 s2) := (by have := hno.out; unfold ahead at *; omega : ¬ ahead (1 + 1) s1 s2)
        have q1 : ((-1) == s1) = false := by simp; omega
        have q2 : (s1 == (-1)) = false := by simp; omega
        clear hno hne
        go_wp2_with fail
        go_roundw
        case rel => exact ⟨1 + 1, by omega, rfl, HN, (by repeat (first | with_reducible exact Gr.refl _ | with_reducible assumption | refine Gr.setCell ?_ (by first | omega | (simp; done) | (simp; omega)) _ | refine Gr.alloc ?_ _ | refine Gr.drew ?_ | refine Gr.drewN ?_ _ | refine Gr.trans ?_ (by with_reducible assumption)))⟩
        case measure => simp [intOf]
      · have HN : Hid (¬ ahead (1 + 1) (-1) s2) := (by have := hno.out; unfold ahead at *; omega : ¬ ahead (1 + 1) (-1) s2)
        have q1 : (1 == s2) = false := by simp; omega
        have q2 : (s2 == 1) = false := by simp; omega
        clear hno hne
        go_wp2_with fail
        go_roundw
        case rel => exact ⟨1 + 1, by omega, rfl, HN, (by repeat (first | with_reducible exact Gr.refl _ | with_reducible assumption | refine Gr.setCell ?_ (by first | omega | (simp; done) | (simp; omega)) _ | refine Gr.alloc ?_ _ | refine Gr.drew ?_ | refine Gr.drewN ?_ _ | refine Gr.trans ?_ (by with_reducible assumption)))⟩
        case measure => simp [intOf]
    · rcases (show (s1 = 0 ∧ s2 = 1) ∨ (s1 ≠ 0) ∨ (s1 = 0 ∧ s2 ≠ 1) by omega) with ⟨rfl, rfl⟩ | hne | ⟨rfl, hne⟩
      · have hV : R = (-1) := by rcases HR.out with ⟨_, e⟩ | ⟨hn, _⟩; (rw [e]; rfl); (exfalso; omega)
        subst hV
        clear hno
        go_wp2_with fail
        go_ret
        exact ⟨rfl, (by repeat (first | with_reducible exact Gr.refl _ | with_reducible assumption | refine Gr.setCell ?_ (by first | omega | (simp; done) | (simp; omega)) _ | refine Gr.alloc ?_ _ | refine Gr.drew ?_ | refine Gr.drewN ?_ _ | refine Gr.trans ?_ (by with_reducible assumption)))⟩
      · have HN : Hid (¬ ahead (2 + 1) s1 s2) := (by have := hno.out; unfold ahead at *; omega : ¬ ahead (2 + 1) s1 s2)
        have q1 : (0 == s1) = false := by simp; omega
        have q2 : (s1 == 0) = false := by simp; omega
        clear hno hne
        go_wp2_with fail
        go_roundw
        case rel => exact ⟨2 + 1, by omega, rfl, HN, (by repeat (first | with_reducible exact Gr.refl _ | with_reducible assumption | refine Gr.setCell ?_ (by first | omega | (simp; done) | (simp; omega)) _ | refine Gr.alloc ?_ _ | refine Gr.drew ?_ | refine Gr.drewN ?_ _ | refine Gr.trans ?_ (by with_reducible assumption)))⟩
        case measure => simp [intOf]
      · have HN : Hid (¬ ahead (2 + 1) 0 s2) := (by have := hno.out; unfold ahead at *; omega : ¬ ahead (2 + 1) 0 s2)
        have q1 : (1 == s2) = false := by simp; omega
        have q2 : (s2 == 1) = false := by simp; omega
        clear hno hne
        go_wp2_with fail
        go_roundw
        case rel => exact ⟨2 + 1, by omega, rfl, HN, (by repeat (first | with_reducible exact Gr.refl _ | with_reducible assumption | refine Gr.setCell ?_ (by first | omega | (simp; done) | (simp; omega)) _ | refine Gr.alloc ?_ _ | refine Gr.drew ?_ | refine Gr.drewN ?_ _ | refine Gr.trans ?_ (by with_reducible assumption)))⟩
        case measure => simp [intOf]
    · rcases (show (s1 = 0 ∧ s2 = 0) ∨ (s1 ≠ 0) ∨ (s1 = 0 ∧ s2 ≠ 0) by omega) with ⟨rfl, rfl⟩ | hne | ⟨rfl, hne⟩
      · have hV : R = 0 := by rcases HR.out with ⟨_, e⟩ | ⟨hn, _⟩; (rw [e]; rfl); (exfalso; omega)
        subst hV
        clear hno
        go_wp2_with fail
        go_ret
        exact ⟨rfl, (by repeat (first | with_reducible exact Gr.refl _ | with_reducible assumption | refine Gr.setCell ?_ (by first | omega | (simp; done) | (simp; omega)) _ | refine Gr.alloc ?_ _ | refine Gr.drew ?_ | refine Gr.drewN ?_ _ | refine Gr.trans ?_ (by with_reducible assumption)))⟩
      · have HN : Hid (¬ ahead (3 + 1) s1 s2) := (by have := hno.out; unfold ahead at *; omega : ¬ ahead (3 + 1) s1 s2)
        have q1 : (0 == s1) = false := by simp; omega
        have q2 : (s1 == 0) = false := by simp; omega
        clear hno hne
        go_wp2_with fail
        go_roundw
        case rel => exact ⟨3 + 1, by omega, rfl, HN, (by repeat (first | with_reducible exact Gr.refl _ | with_reducible assumption | refine Gr.setCell ?_ (by first | omega | (simp; done) | (simp; omega)) _ | refine Gr.alloc ?_ _ | refine Gr.drew ?_ | refine Gr.drewN ?_ _ | refine Gr.trans ?_ (by with_reducible assumption)))⟩
        case measure => simp [intOf]
      · have HN : Hid (¬ ahead (3 + 1) 0 s2) := (by have := hno.out; unfold ahead at *; omega : ¬ ahead (3 + 1) 0 s2)
        have q1 : (0 == s2) = false := by simp; omega
        have q2 : (s2 == 0) = false := by simp; omega
        clear hno hne
        go_wp2_with fail
        go_roundw
        case rel => exact ⟨3 + 1, by omega, rfl, HN, (by repeat (first | with_reducible exact Gr.refl _ | with_reducible assumption | refine Gr.setCell ?_ (by first | omega | (simp; done) | (simp; omega)) _ | refine Gr.alloc ?_ _ | refine Gr.drew ?_ | refine Gr.drewN ?_ _ | refine Gr.trans ?_ (by with_reducible assumption)))⟩
        case measure => simp [intOf]
    · rcases (show (s1 = 0 ∧ s2 = (-1)) ∨ (s1 ≠ 0) ∨ (s1 = 0 ∧ s2 ≠ (-1)) by omega) with ⟨rfl, rfl⟩ | hne | ⟨rfl, hne⟩
      · have hV : R = 1 := by rcases HR.out with ⟨_, e⟩ | ⟨hn, _⟩; (rw [e]; rfl); (exfalso; omega)
        subst hV
        clear hno
        go_wp2_with fail
        go_ret
        exact ⟨rfl, (by repeat (first | with_reducible exact Gr.refl _ | with_reducible assumption | refine Gr.setCell ?_ (by first | omega | (simp; done) | (simp; omega)) _ | refine Gr.alloc ?_ _ | refine Gr.drew ?_ | refine Gr.drewN ?_ _ | refine Gr.trans ?_ (by with_reducible assumption)))⟩
      · have HN : Hid (¬ ahead (4 + 1) s1 s2) := (by have := hno.out; unfold ahead at *; omega : ¬ ahead (4 + 1) s1 s2)
        have q1 : (0 == s1) = false := by simp; omega
        have q2 : (s1 == 0) = false := by simp; omega
        clear hno hne
        go_wp2_with fail
        go_roundw
        case rel => exact ⟨4 + 1, by omega, rfl, HN, (by repeat (first | with_reducible exact Gr.refl _ | with_reducible assumption | refine Gr.setCell ?_ (by first | omega | (simp; done) | (simp; omega)) _ | refine Gr.alloc ?_ _ | refine Gr.drew ?_ | refine Gr.drewN ?_ _ | refine Gr.trans ?_ (by with_reducible assumption)))⟩
        case measure => simp [intOf]
      · have HN : Hid (¬ ahead (4 + 1) 0 s2) := (by have := hno.out; unfold ahead at *; omega : ¬ ahead (4 + 1) 0 s2)
        have q1 : ((-1) == s2) = false := by simp; omega
        have q2 : (s2 == (-1)) = false := by simp; omega
        clear hno hne
        go_wp2_with fail
        go_roundw
        case rel => exact ⟨4 + 1, by omega, rfl, HN, (by repeat (first | with_reducible exact Gr.refl _ | with_reducible assumption | refine Gr.setCell ?_ (by first | omega | (simp; done) | (simp; omega)) _ | refine Gr.alloc ?_ _ | refine Gr.drew ?_ | refine Gr.drewN ?_ _ | refine Gr.trans ?_ (by with_reducible assumption)))⟩
        case measure => simp [intOf]
    · rcases (show (s1 = 1 ∧ s2 = (-1)) ∨ (s1 ≠ 1) ∨ (s1 = 1 ∧ s2 ≠ (-1)) by omega) with ⟨rfl, rfl⟩ | hne | ⟨rfl, hne⟩
      · have hV : R = 1 := by rcases HR.out with ⟨_, e⟩ | ⟨hn, _⟩; (rw [e]; rfl); (exfalso; omega)
        subst hV
        clear hno
        go_wp2_with fail
        go_ret
        exact ⟨rfl, (by repeat (first | with_reducible exact Gr.refl _ | with_reducible assumption | refine Gr.setCell ?_ (by first | omega | (simp; done) | (simp; omega)) _ | refine Gr.alloc ?_ _ | refine Gr.drew ?_ | refine Gr.drewN ?_ _ | refine Gr.trans ?_ (by with_reducible assumption)))⟩
      · have HN : Hid (¬ ahead (5 + 1) s1 s2) := (by have := hno.out; unfold ahead at *; omega : ¬ ahead (5 + 1) s1 s2)
        have q1 : (1 == s1) = false := by simp; omega
        have q2 : (s1 == 1) = false := by simp; omega
        clear hno hne
        go_wp2_with fail
        go_roundw
        case rel => exact ⟨5 + 1, by omega, rfl, HN, (by repeat (first | with_reducible exact Gr.refl _ | with_reducible assumption | refine Gr.setCell ?_ (by first | omega | (simp; done) | (simp; omega)) _ | refine Gr.alloc ?_ _ | refine Gr.drew ?_ | refine Gr.drewN ?_ _ | refine Gr.trans ?_ (by with_reducible assumption)))⟩
        case measure => simp [intOf]
      · have HN : Hid (¬ ahead (5 + 1) 1 s2) := (by have := hno.out; unfold ahead at *; omega : ¬ ahead (5 + 1) 1 s2)
        have q1 : ((-1) == s2) = false := by simp; omega
        have q2 : (s2 == (-1)) = false := by simp; omega
        clear hno hne
        go_wp2_with fail
        go_roundw
        case rel => exact ⟨5 + 1, by omega, rfl, HN, (by repeat (first | with_reducible exact Gr.refl _ | with_reducible assumption | refine Gr.setCell ?_ (by first | omega | (simp; done) | (simp; omega)) _ | refine Gr.alloc ?_ _ | refine Gr.drew ?_ | refine Gr.drewN ?_ _ | refine Gr.trans ?_ (by with_reducible assumption)))⟩
        case measure => simp [intOf]
    · rcases (show (s1 = 1 ∧ s2 = 0) ∨ (s1 ≠ 1) ∨ (s1 = 1 ∧ s2 ≠ 0) by omega) with ⟨rfl, rfl⟩ | hne | ⟨rfl, hne⟩
      · have hV : R = 1 := by rcases HR.out with ⟨_, e⟩ | ⟨hn, _⟩; (rw [e]; rfl); (exfalso; omega)
        subst hV
        clear hno
        go_wp2_with fail
        go_ret
        exact ⟨rfl, (by repeat (first | with_reducible exact Gr.refl _ | with_reducible assumption | refine Gr.setCell ?_ (by first | omega | (simp; done) | (simp; omega)) _ | refine Gr.alloc ?_ _ | refine Gr.drew ?_ | refine Gr.drewN ?_ _ | refine Gr.trans ?_ (by with_reducible assumption)))⟩
      · have HN : Hid (¬ ahead (6 + 1) s1 s2) := (by have := hno.out; unfold ahead at *; omega : ¬ ahead (6 + 1) s1 s2)
        have q1 : (1 == s1) = false := by simp; omega
        have q2 : (s1 == 1) = false := by simp; omega
        clear hno hne
        go_wp2_with fail
        go_roundw
        case rel => exact ⟨6 + 1, by omega, rfl, HN, (by repeat (first | with_reducible exact Gr.refl _ | with_reducible assumption | refine Gr.setCell ?_ (by first | omega | (simp; done) | (simp; omega)) _ | refine Gr.alloc ?_ _ | refine Gr.drew ?_ | refine Gr.drewN ?_ _ | refine Gr.trans ?_ (by with_reducible assumption)))⟩
        case measure => simp [intOf]
      · have HN : Hid (¬ ahead (6 + 1) 1 s2) := (by have := hno.out; unfold ahead at *; omega : ¬ ahead (6 + 1) 1 s2)
        have q1 : (0 == s2) = false := by simp; omega
        have q2 : (s2 == 0) = false := by simp; omega
        clear hno hne
        go_wp2_with fail
        go_roundw
        case rel => exact ⟨6 + 1, by omega, rfl, HN, (by repeat (first | with_reducible exact Gr.refl _ | with_reducible assumption | refine Gr.setCell ?_ (by first | omega | (simp; done) | (simp; omega)) _ | refine Gr.alloc ?_ _ | refine Gr.drew ?_ | refine Gr.drewN ?_ _ | refine Gr.trans ?_ (by with_reducible assumption)))⟩
        case measure => simp [intOf]
    · have hs : s1 = s2 ∧ s1 ≠ 0 := by have := hno.out; unfold ahead at this; omega
      have hV : R = sg x := by rcases HR.out with ⟨hn, _⟩ | ⟨_, e⟩; (exact absurd hs hn); exact e
      subst hV
      clear hno
      go_wp2_with fail
      refine wp_region_gr (by kernel_rfl) (by kernel_rfl) (fun hq1 hq2 => ?_)
      repeat (first | go_big_quiet_skip | (go_big_quiet_want; go_big_quiet_op; first | go_big_quiet_on | (apply Exists.intro; refine ⟨fun _ => ?_, ?_⟩; (· (first | (go_at_call 19; with_reducible exact gr_call (HP1.out _)) | (go_at_call 19; with_reducible exact gr_call (HP2.out _)) | (go_at_call 20; with_reducible exact gr_call (HS.out _)) | (go_at_call 21; with_reducible exact gr_call (HG.out _)))); go_big_quiet_on)))
      refine wpQuiet_nil ?_
      clear hq1 hq2
      rintro w9 ⟨⟨_, hg9⟩, rfl⟩
      obtain ⟨hc9, hf9⟩ := hg9.cells
      have hz9 := hg9.size
      (try simp at hz9); (try have hl9_0_0 : w.heap.size < w9.heap.size := by omega); (try have hm9_0_0 : w.heap.size ≤ w9.heap.size := by omega); (try have hl9_0_1 : w.heap.size + 1 < w9.heap.size := by omega); (try have hl9_0_2 : w.heap.size + 2 < w9.heap.size := by omega); (try have hl9_1_0 : w1.heap.size < w9.heap.size := by omega); (try have hm9_1_0 : w1.heap.size ≤ w9.heap.size := by omega); (try have hl9_1_1 : w1.heap.size + 1 < w9.heap.size := by omega); (try have hl9_1_2 : w1.heap.size + 2 < w9.heap.size := by omega); (try have hl9_2_0 : w2.heap.size < w9.heap.size := by omega); (try have hm9_2_0 : w2.heap.size ≤ w9.heap.size := by omega); (try have hl9_2_1 : w2.heap.size + 1 < w9.heap.size := by omega); (try have hl9_2_2 : w2.heap.size + 2 < w9.heap.size := by omega); (try have hl9_3_0 : w3.heap.size < w9.heap.size := by omega); (try have hm9_3_0 : w3.heap.size ≤ w9.heap.size := by omega); (try have hl9_3_1 : w3.heap.size + 1 < w9.heap.size := by omega); (try have hl9_3_2 : w3.heap.size + 2 < w9.heap.size := by omega); (try have hl9_4_0 : w4.heap.size < w9.heap.size := by omega); (try have hm9_4_0 : w4.heap.size ≤ w9.heap.size := by omega); (try have hl9_4_1 : w4.heap.size + 1 < w9.heap.size := by omega); (try have hl9_4_2 : w4.heap.size + 2 < w9.heap.size := by omega); (try have hl9_5_0 : w5.heap.size < w9.heap.size := by omega); (try have hm9_5_0 : w5.heap.size ≤ w9.heap.size := by omega); (try have hl9_5_1 : w5.heap.size + 1 < w9.heap.size := by omega); (try have hl9_5_2 : w5.heap.size + 2 < w9.heap.size := by omega); (try have hl9_6_0 : w6.heap.size < w9.heap.size := by omega); (try have hm9_6_0 : w6.heap.size ≤ w9.heap.size := by omega); (try have hl9_6_1 : w6.heap.size + 1 < w9.heap.size := by omega); (try have hl9_6_2 : w6.heap.size + 2 < w9.heap.size := by omega); (try have hl9_7_0 : w7.heap.size < w9.heap.size := by omega); (try have hm9_7_0 : w7.heap.size ≤ w9.heap.size := by omega); (try have hl9_7_1 : w7.heap.size + 1 < w9.heap.size := by omega); (try have hl9_7_2 : w7.heap.size + 2 < w9.heap.size := by omega); (try have hl9_8_0 : w8.heap.size < w9.heap.size := by omega); (try have hm9_8_0 : w8.heap.size ≤ w9.heap.size := by omega); (try have hl9_8_1 : w8.heap.size + 1 < w9.heap.size := by omega); (try have hl9_8_2 : w8.heap.size + 2 < w9.heap.size := by omega)
      go_wp2_with fail
      go_ret
      exact ⟨rfl, (by repeat (first | with_reducible exact Gr.refl _ | with_reducible assumption | refine Gr.setCell ?_ (by first | omega | (simp; done) | (simp; omega)) _ | refine Gr.alloc ?_ _ | refine Gr.drew ?_ | refine Gr.drewN ?_ _ | refine Gr.trans ?_ (by with_reducible assumption)))⟩
end Go.Proofs.YtclfiaemjdflbaaDoor
