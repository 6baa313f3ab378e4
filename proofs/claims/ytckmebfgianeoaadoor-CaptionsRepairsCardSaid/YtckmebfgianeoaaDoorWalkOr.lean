/-
  Contracts of Ordered of package captions and of the reference.
  Conditions: the captions lie in memory.
-/
import Derived.Test.YtckmebfgianeoaaDoorWalkCu
namespace Go.Proofs.YtckmebfgianeoaaDoor
open Go.RowKit Go.Lib
set_option linter.unusedSimpArgs false
set_option linter.unusedVariables false

/-- no caption begins ahead of the end of the one before it -/
def ordB : List Cu → Bool
  | c :: d :: l => decide (c.t ≤ d.f) && ordB (d :: l)
  | _ => true
theorem ordB_step {cs : List Cu} {j : Nat} (h : j + 1 < cs.length) : ordB (cs.drop j) = (decide (cs[j].t ≤ cs[j + 1].f) && ordB (cs.drop (j + 1))) := by
  rw [List.drop_eq_getElem_cons (show j < cs.length by omega), List.drop_eq_getElem_cons h]
  rfl
theorem ordB_end {cs : List Cu} {j : Nat} (h : cs.length ≤ j + 1) : ordB (cs.drop j) = true := by
  have hl : (cs.drop j).length ≤ 1 := by simp; omega
  match cs.drop j, hl with
  | [], _ => rfl
  | [_], _ => rfl

set_option maxHeartbeats 2000000 in
theorem rordered_any (v : Value) (cs : List Cu) (w : World) (hC : Cues w v cs) :
    Calls Tryd.prog 26 #[v] w fun e w' => e = .returned (.bool (ordB cs && vCues cs)) ∧ Gr w w' := by
  have HV : Hid (∀ w', Gr w w' → Calls Tryd.prog 39 #[v] w' fun e w'' => e = .returned (.bool (vCues cs)) ∧ Gr w' w'') := fun w' hg => crvalid_any _ _ w' (hC.gr hg)
  obtain ⟨a, cap, rfl, ha⟩ := hC.at_.shape
  have hlen := hC.n
  have hC := Lib.hid hC
  obtain ⟨R, hR⟩ : ∃ R, ordB cs = R := ⟨_, rfl⟩
  obtain ⟨V, hv⟩ : ∃ V, vCues cs = V := ⟨_, rfl⟩
  rw [hR, hv]
  rw [hv] at HV
  clear hv
  have HS : Hid (ordB (cs.drop 0) = R) := hR
  clear hR
  have ha := Lib.hid ha
  go_enter Tryd.func26, Tryd.ntmps26
  go_wp2
  go_loopw [3] (fun k wr => ∃ j : Nat, j ≤ cs.length ∧ k = .int .i64 ((j + 1 : Nat) : Int) ∧ Hid (ordB (cs.drop j) = R) ∧ Gr w wr) (fun k _ => cs.length + 1 - (RowKit.intOf k).toNat)
  case atStart => exact ⟨0, Nat.zero_le _, rfl, HS, (by repeat (first | with_reducible exact Gr.refl _ | with_reducible assumption | refine Gr.setCell ?_ (by first | omega | (simp; done) | (simp; omega)) _ | refine Gr.alloc ?_ _ | refine Gr.drew ?_ | refine Gr.drewN ?_ _ | refine Gr.trans ?_ (by with_reducible assumption)))⟩
  case round =>
    obtain ⟨j, h3, rfl, hno, hg⟩ := hrel
    clear HS
    obtain ⟨hcg, hfg⟩ := hg.cells
    by_cases c1 : j + 1 < cs.length
    · have q6 : decide ((j : Int) + 1 < (cs.length : Int)) = true := decide_eq_true (by omega)
      rcases ha.out with ha2 | ⟨b, o, rfl, hb, hc⟩
      · omega
      have hx1 : b < wr.heap.size := Nat.lt_of_lt_of_le hb hg.size
      have hd := hno.out
      rw [ordB_step c1] at hd
      have e0 := (hcg b _ hb).trans (hc (j + 1) c1).1
      have e1 := (hcg b _ hb).trans (hc j (by omega)).2.1
      generalize cs[j + 1] = c at hd e0
      generalize cs[j] = d at hd e1
      clear hc
      by_cases d1 : c.f < d.t
      · have r1 : decide (c.f < d.t) = true := decide_eq_true d1
        rw [decide_eq_false (show ¬ d.t ≤ c.f by omega)] at hd
        have hV : Hid (R = false) := hd.symm
        clear hd hno hcg hfg ha hC HV
        go_wp2
        refine wp_region_gr (by kernel_rfl) (by kernel_rfl) (fun hq1 hq2 => ?_)
        repeat (first | go_big_quiet_skip | (go_big_quiet_want; go_big_quiet_op; first | go_big_quiet_on | (apply Exists.intro; refine ⟨fun _ => ?_, ?_⟩; (· (fail)); go_big_quiet_on)))
        refine wpQuiet_nil ?_
        clear hq1 hq2
        rintro w1 ⟨⟨_, hg1⟩, rfl⟩
        obtain ⟨hc1, hf1⟩ := hg1.cells
        have hz1 := hg1.size
        (try simp at hz1); (try have hl1_0_0 : w.heap.size < w1.heap.size := by omega); (try have hm1_0_0 : w.heap.size ≤ w1.heap.size := by omega); (try have hl1_0_1 : w.heap.size + 1 < w1.heap.size := by omega); (try have hl1_0_2 : w.heap.size + 2 < w1.heap.size := by omega)
        go_wp2
        go_ret
        exact ⟨by rw [hV.out]; rfl, (by repeat (first | with_reducible exact Gr.refl _ | with_reducible assumption | refine Gr.setCell ?_ (by first | omega | (simp; done) | (simp; omega)) _ | refine Gr.alloc ?_ _ | refine Gr.drew ?_ | refine Gr.drewN ?_ _ | refine Gr.trans ?_ (by with_reducible assumption)))⟩
      · have r1 : decide (c.f < d.t) = false := decide_eq_false d1
        rw [decide_eq_true (show d.t ≤ c.f by omega), Bool.true_and] at hd
        have hV : Hid (ordB (cs.drop (j + 1)) = R) := hd
        clear hd hno hcg hfg ha hC HV
        go_wp2
        refine wp_region_gr (by kernel_rfl) (by kernel_rfl) (fun hq1 hq2 => ?_)
        repeat (first | go_big_quiet_skip | (go_big_quiet_want; go_big_quiet_op; first | go_big_quiet_on | (apply Exists.intro; refine ⟨fun _ => ?_, ?_⟩; (· (fail)); go_big_quiet_on)))
        refine wpQuiet_nil ?_
        clear hq1 hq2
        rintro w1 ⟨⟨_, hg1⟩, rfl⟩
        obtain ⟨hc1, hf1⟩ := hg1.cells
        have hz1 := hg1.size
        (try simp at hz1); (try have hl1_0_0 : w.heap.size < w1.heap.size := by omega); (try have hm1_0_0 : w.heap.size ≤ w1.heap.size := by omega); (try have hl1_0_1 : w.heap.size + 1 < w1.heap.size := by omega); (try have hl1_0_2 : w.heap.size + 2 < w1.heap.size := by omega)
        go_wp2
        go_roundw
        case rel => exact ⟨j + 1, by omega, by go_num, hV, (by repeat (first | with_reducible exact Gr.refl _ | with_reducible assumption | refine Gr.setCell ?_ (by first | omega | (simp; done) | (simp; omega)) _ | refine Gr.alloc ?_ _ | refine Gr.drew ?_ | refine Gr.drewN ?_ _ | refine Gr.trans ?_ (by with_reducible assumption)))⟩
        case measure => simp [RowKit.intOf]; omega
    · have q6 : decide ((j : Int) + 1 < (cs.length : Int)) = false := decide_eq_false (by omega)
      have hV : Hid (R = true) := by
        have hd := hno.out
        rw [ordB_end (by omega)] at hd
        exact hd.symm
      clear hno ha hcg hfg hC
      go_wp2_with (go_at_call 39; (with_reducible refine (HV.out _ ?_).mono ?_); (· exact (by repeat (first | with_reducible exact Gr.refl _ | with_reducible assumption | refine Gr.setCell ?_ (by first | omega | (simp; done) | (simp; omega)) _ | refine Gr.alloc ?_ _ | refine Gr.drew ?_ | refine Gr.drewN ?_ _ | refine Gr.trans ?_ (by with_reducible assumption)))); rintro e w1 ⟨rfl, hg1⟩)
      go_ret
      exact ⟨by rw [hV.out]; rfl, (by repeat (first | with_reducible exact Gr.refl _ | with_reducible assumption | refine Gr.setCell ?_ (by first | omega | (simp; done) | (simp; omega)) _ | refine Gr.alloc ?_ _ | refine Gr.drew ?_ | refine Gr.drewN ?_ _ | refine Gr.trans ?_ (by with_reducible assumption)))⟩

theorem res_cell (w w1 : World) (a : Value) (t : TypeId) (hg1 : Gr (w.alloc (.cells #[a] t)) w1) : Cel w1 w.heap.size [a] := (Cel.new w #[a] t).gr hg1
set_option maxRecDepth 20000 in
set_option maxHeartbeats 4000000 in
theorem cordered_any (v : Value) (cs : List Cu) (w : World) (hC : Cues w v cs) :
    Calls Tryd.prog 25 #[v] w fun e w' => e = .returned (.bool (vCues cs && ordB cs)) ∧ Gr w w' := by
  have HV : Hid (∀ w', Gr w w' → Calls Tryd.prog 37 #[v] w' fun e w'' => e = .returned (.bool (vCues cs)) ∧ Gr w' w'') := fun w' hg => cvalid_any _ _ w' (hC.gr hg)
  obtain ⟨a, cap, rfl, ha⟩ := hC.at_.shape
  have hlen := hC.n
  have hmf := hmf_any Tryd.prog
  cases hv : vCues cs with
  | false =>
    rw [hv] at HV
    clear ha hC hv
    go_enter_defers Tryd.func25, Tryd.ntmps25
    go_wp2_with (go_at_call 37; (with_reducible refine (HV.out _ ?_).mono ?_); (· exact (by repeat (first | with_reducible exact Gr.refl _ | with_reducible assumption | refine Gr.setCell ?_ (by first | omega | (simp; done) | (simp; omega)) _ | refine Gr.alloc ?_ _ | refine Gr.drew ?_ | refine Gr.drewN ?_ _ | refine Gr.trans ?_ (by with_reducible assumption)))); rintro e w1 ⟨rfl, hg1⟩; obtain ⟨k1, k3⟩ := (res_cell _ _ _ _ hg1).one)
    have hz := hg1.size
    simp at hz
    refine leaves_cons (f := 45) (args := #[.pointer (some ⟨w.heap.size, 0, none⟩)]) (by simp) (by simp [go_sem]) ?_
    refine (orderedD_idle _ _).mono ?_
    rintro e u' w'' ⟨rfl, rfl, rfl⟩
    simp [Leaves, settle, results, Tryd.results25, go_sem, k1]
    exact (by repeat (first | with_reducible exact Gr.refl _ | with_reducible assumption | refine Gr.setCell ?_ (by first | omega | (simp; done) | (simp; omega)) _ | refine Gr.alloc ?_ _ | refine Gr.drew ?_ | refine Gr.drewN ?_ _ | refine Gr.trans ?_ (by with_reducible assumption)))
  | true =>
  rw [hv] at HV
  clear hv
  have hC := Lib.hid hC
  obtain ⟨R, hR⟩ : ∃ R, ordB cs = R := ⟨_, rfl⟩
  rw [Bool.true_and, hR]
  have HS : Hid (ordB (cs.drop 0) = R) := hR
  clear hR
  have ha := Lib.hid ha
  go_enter_defers Tryd.func25, Tryd.ntmps25
  go_wp2_with (go_at_call 37; (with_reducible refine (HV.out _ ?_).mono ?_); (· exact (by repeat (first | with_reducible exact Gr.refl _ | with_reducible assumption | refine Gr.setCell ?_ (by first | omega | (simp; done) | (simp; omega)) _ | refine Gr.alloc ?_ _ | refine Gr.drew ?_ | refine Gr.drewN ?_ _ | refine Gr.trans ?_ (by with_reducible assumption)))); rintro e w1 ⟨rfl, hg1⟩)
  have hg0 : Gr w w1 := ((Gr.refl w).alloc _).trans hg1
  have kr1 := res_cell _ _ _ _ hg1
  clear hg1
  go_loopw [3] (fun k wr => ∃ j : Nat, j ≤ cs.length ∧ k = .int .i64 ((j + 1 : Nat) : Int) ∧ Hid (ordB (cs.drop j) = R) ∧ Gr w wr ∧ Cel wr w.heap.size [.bool false]) (fun k _ => cs.length + 1 - (RowKit.intOf k).toNat)
  case atStart => exact ⟨0, Nat.zero_le _, rfl, HS, hg0, kr1⟩
  case round =>
    obtain ⟨j, h3, rfl, hno, hg, kc⟩ := hrel
    clear HS HV hg0 kr1 w1
    obtain ⟨hcg, hfg⟩ := hg.cells
    have hsz := kc.lt
    by_cases c1 : j + 1 < cs.length
    · have q6 : decide ((j : Int) + 1 < (cs.length : Int)) = true := decide_eq_true (by omega)
      rcases ha.out with ha2 | ⟨b, o, rfl, hb, hc⟩
      · omega
      have hx1 : b < wr.heap.size := Nat.lt_of_lt_of_le hb hg.size
      have hd := hno.out
      rw [ordB_step c1] at hd
      have e0 := (hcg b _ hb).trans (hc (j + 1) c1).1
      have e1 := (hcg b _ hb).trans (hc j (by omega)).2.1
      generalize cs[j + 1] = c at hd e0
      generalize cs[j] = d at hd e1
      clear hc
      by_cases d1 : c.f < d.t
      · have r1 : decide (c.f < d.t) = true := decide_eq_true d1
        rw [decide_eq_false (show ¬ d.t ≤ c.f by omega)] at hd
        have hV : Hid (R = false) := hd.symm
        clear hd hno hcg hfg ha hC
        obtain ⟨k1, k3⟩ := kc.one
        clear kc
        go_wp2
        refine wp_region_gr (by kernel_rfl) (by kernel_rfl) (fun hq1 hq2 => ?_)
        repeat (first | go_big_quiet_skip | (go_big_quiet_want; go_big_quiet_op; first | go_big_quiet_on | (apply Exists.intro; refine ⟨fun _ => ?_, ?_⟩; (· (fail)); go_big_quiet_on)))
        refine wpQuiet_nil ?_
        clear hq1 hq2
        rintro w1 ⟨⟨_, hg1⟩, rfl⟩
        obtain ⟨hc1, hf1⟩ := hg1.cells
        have hz1 := hg1.size
        (try simp at hz1); (try have hl1_0_0 : w.heap.size < w1.heap.size := by omega); (try have hm1_0_0 : w.heap.size ≤ w1.heap.size := by omega); (try have hl1_0_1 : w.heap.size + 1 < w1.heap.size := by omega); (try have hl1_0_2 : w.heap.size + 2 < w1.heap.size := by omega)
        have k1' := (hc1 w.heap.size 0 hsz).trans k1
        go_wp2
        refine leaves_cons (f := 45) (args := #[.pointer (some ⟨w.heap.size, 0, none⟩)]) (by simp) (by simp [go_sem]) ?_
        refine (orderedD_idle _ _).mono ?_
        rintro e u' w'' ⟨rfl, rfl, rfl⟩
        simp [Leaves, settle, results, Tryd.results25, go_sem, k1']
        exact ⟨hV.out, (by repeat (first | with_reducible exact Gr.refl _ | with_reducible assumption | refine Gr.setCell ?_ (by first | omega | (simp; done) | (simp; omega)) _ | refine Gr.alloc ?_ _ | refine Gr.drew ?_ | refine Gr.drewN ?_ _ | refine Gr.trans ?_ (by with_reducible assumption)))⟩
      · have r1 : decide (c.f < d.t) = false := decide_eq_false d1
        rw [decide_eq_true (show d.t ≤ c.f by omega), Bool.true_and] at hd
        have hV : Hid (ordB (cs.drop (j + 1)) = R) := hd
        clear hd hno hcg hfg ha hC
        have kc' := Lib.hid kc
        clear kc
        go_wp2
        refine wp_region_gr (by kernel_rfl) (by kernel_rfl) (fun hq1 hq2 => ?_)
        repeat (first | go_big_quiet_skip | (go_big_quiet_want; go_big_quiet_op; first | go_big_quiet_on | (apply Exists.intro; refine ⟨fun _ => ?_, ?_⟩; (· (fail)); go_big_quiet_on)))
        refine wpQuiet_nil ?_
        clear hq1 hq2
        rintro w1 ⟨⟨_, hg1⟩, rfl⟩
        obtain ⟨hc1, hf1⟩ := hg1.cells
        have hz1 := hg1.size
        (try simp at hz1); (try have hl1_0_0 : w.heap.size < w1.heap.size := by omega); (try have hm1_0_0 : w.heap.size ≤ w1.heap.size := by omega); (try have hl1_0_1 : w.heap.size + 1 < w1.heap.size := by omega); (try have hl1_0_2 : w.heap.size + 2 < w1.heap.size := by omega)
        go_wp2
        go_roundw
        case rel => exact ⟨j + 1, by omega, by go_num, hV, hg.trans hg1, kc'.out.gr hg1⟩
        case measure => simp [RowKit.intOf]; omega
    · have q6 : decide ((j : Int) + 1 < (cs.length : Int)) = false := decide_eq_false (by omega)
      have hV : Hid (R = true) := by
        have hd := hno.out
        rw [ordB_end (by omega)] at hd
        exact hd.symm
      clear hno ha hcg hfg hC
      obtain ⟨k1, k3⟩ := kc.one
      go_wp2
      refine leaves_cons (f := 45) (args := #[.pointer (some ⟨w.heap.size, 0, none⟩)]) (by simp) (by simp [go_sem]) ?_
      refine (orderedD_idle _ _).mono ?_
      rintro e u' w'' ⟨rfl, rfl, rfl⟩
      simp [Leaves, settle, results, Tryd.results25, go_sem, k1]
      exact ⟨hV.out, (by repeat (first | with_reducible exact Gr.refl _ | with_reducible assumption | refine Gr.setCell ?_ (by first | omega | (simp; done) | (simp; omega)) _ | refine Gr.alloc ?_ _ | refine Gr.drew ?_ | refine Gr.drewN ?_ _ | refine Gr.trans ?_ (by with_reducible assumption)))⟩
end Go.Proofs.YtckmebfgianeoaaDoor
