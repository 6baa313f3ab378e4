/-
  Contract of the law's function touching: where it says no, no two captions with the same lines touch.
  Conditions: the captions lie in memory.
-/
import Derived.Test.YthadhmhbbfjomaaGreatDoorWalkVa
import Derived.Test.YthadhmhbbfjomaaGreatDoorMathFw
namespace Go.Proofs.YthadhmhbbfjomaaGreatDoor
open Go.RowKit Go.Lib
set_option linter.unusedSimpArgs false
set_option linter.unusedVariables false

set_option maxRecDepth 20000 in
set_option maxHeartbeats 4000000 in
theorem touching_any (v : Value) (cs : List Cu) (w : World) (hC : Cues w v cs) :
    Calls Tryz.prog 8 #[v] w fun e w' => ∃ b : Bool, e = .returned (.bool b) ∧ Gr w w' ∧ (b = false → NoT (cs.map cAbs)) := by
  obtain ⟨a, cap, rfl, ha⟩ := hC.at_.shape
  have hlen := hC.n
  have ha := Lib.hid ha
  have hC := Lib.hid hC
  go_enter Tryz.func8, Tryz.ntmps8
  go_wp2
  go_loopw [3] (fun i wr => ∃ ii : Nat, ii ≤ cs.length ∧ i = .int .i64 ii ∧ Gr w wr ∧ Hid (∀ (i k : Nat) x y, i < ii → cs[i]? = some x → cs[k]? = some y → ¬ (x.t = y.f ∧ x.ss = y.ss))) (fun i _ => cs.length - (RowKit.intOf i).toNat)
  case atStart => exact ⟨0, Nat.zero_le _, rfl, Gr.refl _, Lib.hid (fun i k x y h => absurd h (Nat.not_lt_zero _))⟩
  case round =>
    obtain ⟨ii, h1, rfl, hg, hno⟩ := hrel
    by_cases c1 : ii < cs.length
    · have q1 : decide (ii < cs.length) = true := decide_eq_true c1
      obtain ⟨wo, rfl⟩ : ∃ wo, wo = wr := ⟨wr, rfl⟩
      go_wp2
      go_loopw [4] (fun k wr => ∃ kk : Nat, kk ≤ cs.length ∧ k = .int .i64 kk ∧ Gr w wr ∧ Hid (∀ (k : Nat) x y, k < kk → cs[ii]? = some x → cs[k]? = some y → ¬ (x.t = y.f ∧ x.ss = y.ss))) (fun k _ => cs.length - (RowKit.intOf k).toNat)
      case atStart => exact ⟨0, Nat.zero_le _, rfl, hg, Lib.hid (fun k x y h => absurd h (Nat.not_lt_zero _))⟩
      case round =>
        obtain ⟨kk, h2, rfl, hg2, hno2⟩ := hrel
        by_cases c2 : kk < cs.length
        · have q2 : decide (kk < cs.length) = true := decide_eq_true c2
          rcases ha.out with h | ⟨b1, o1, rfl, hb1, hc1⟩
          · omega
          obtain ⟨hcg, hfg⟩ := hg2.cells
          have ha1 := hc1 ii c1
          have ha2 := hc1 kk c2
          have e1 := (hcg b1 _ hb1).trans ha1.2.1
          have e2 := (hcg b1 _ hb1).trans ha1.2.2
          have i0 := (hcg b1 _ hb1).trans ha2.1
          have i2 := (hcg b1 _ hb1).trans ha2.2.2
          have hx1 : b1 < wr.heap.size := Nat.lt_of_lt_of_le hb1 hg2.size
          have hsa := (hC.out.at_.2 _ (List.getElem_mem c1)).gr hg2
          have hsb := (hC.out.at_.2 _ (List.getElem_mem c2)).gr hg2
          have oka := hC.out.ok _ (List.getElem_mem c1)
          have okb := hC.out.ok _ (List.getElem_mem c2)
          have gx : cs[ii]? = some cs[ii] := List.getElem?_eq_getElem c1
          have gy : cs[kk]? = some cs[kk] := List.getElem?_eq_getElem c2
          generalize cs[ii] = sa at gx e1 e2 hsa oka
          generalize cs[kk] = sb at gy i0 i2 hsb okb
          have hstep : Hid (¬ (sa.t = sb.f ∧ sa.ss = sb.ss) → ∀ (k : Nat) x y, k < kk + 1 → cs[ii]? = some x → cs[k]? = some y → ¬ (x.t = y.f ∧ x.ss = y.ss)) := Lib.hid fun hn k x y hk hx hy => by
            rcases Nat.lt_or_ge k kk with h | h
            · exact hno2.out k x y h hx hy
            · obtain rfl : k = kk := by omega
              rw [gx] at hx; rw [gy] at hy
              injection hx with hx; injection hy with hy
              subst hx hy
              exact hn
          clear hcg hfg hc1 ha1 ha2 gx gy hno2 hno
          have HL : Hid (∀ w', Gr wr w' → Calls Tryz.prog 7 #[sa.lv, sb.lv] w' fun e w'' => e = .returned (.bool (decide (sa.ss = sb.ss))) ∧ Gr w' w'') := fun w' hg' => strings_any _ _ _ _ w' (hsa.gr hg') (hsb.gr hg') oka.n okb.n
          obtain ⟨p1, k1, hl1, hh1⟩ := hsa.shape
          obtain ⟨p2, k2, hl2, hh2⟩ := hsb.shape
          clear hh1 hh2 hsa hsb
          rw [hl1] at e2 HL
          rw [hl2] at i2 HL
          by_cases d1 : sa.t = sb.f
          · have r1 : (sa.t == sb.f) = true := by simp [d1]
            by_cases d3 : sa.ss = sb.ss
            · rw [decide_eq_true d3] at HL
              clear d1 d3 oka okb hl1 hl2 hstep
              go_wp2
              refine wp_region_gr (by kernel_rfl) (by kernel_rfl) (fun hq1 hq2 => ?_)
              repeat (first | go_big_quiet_skip | (go_big_quiet_want; go_big_quiet_op; first | go_big_quiet_on | (apply Exists.intro; refine ⟨fun _ => ?_, ?_⟩; (· ((go_at_call 7; exact gr_call (HL.out _ (GW.h _))))); go_big_quiet_on)))
              refine wpQuiet_nil ?_
              clear hq1 hq2
              rintro w1 ⟨⟨_, hg1⟩, rfl⟩
              obtain ⟨hc1, hf1⟩ := hg1.cells
              have hz1 := hg1.size
              (try simp at hz1); (try have hl1_0_0 : w.heap.size < w1.heap.size := by omega); (try have hm1_0_0 : w.heap.size ≤ w1.heap.size := by omega); (try have hl1_0_1 : w.heap.size + 1 < w1.heap.size := by omega); (try have hl1_0_2 : w.heap.size + 2 < w1.heap.size := by omega)
              go_wp2
              go_ret
              exact ⟨true, rfl, (by repeat (first | with_reducible exact Gr.refl _ | with_reducible assumption | refine Gr.setCell ?_ (by first | omega | (simp; done) | (simp; omega)) _ | refine Gr.alloc ?_ _ | refine Gr.drew ?_ | refine Gr.drewN ?_ _ | refine Gr.trans ?_ (by with_reducible assumption))), fun h => (by cases h)⟩
            · rw [decide_eq_false d3] at HL
              have hs := Lib.hid (hstep.out (fun h => d3 h.2))
              clear d1 d3 oka okb hl1 hl2 hstep
              go_wp2
              refine wp_region_gr (by kernel_rfl) (by kernel_rfl) (fun hq1 hq2 => ?_)
              repeat (first | go_big_quiet_skip | (go_big_quiet_want; go_big_quiet_op; first | go_big_quiet_on | (apply Exists.intro; refine ⟨fun _ => ?_, ?_⟩; (· ((go_at_call 7; exact gr_call (HL.out _ (GW.h _))))); go_big_quiet_on)))
              refine wpQuiet_nil ?_
              clear hq1 hq2
              rintro w1 ⟨⟨_, hg1⟩, rfl⟩
              obtain ⟨hc1, hf1⟩ := hg1.cells
              have hz1 := hg1.size
              (try simp at hz1); (try have hl1_0_0 : w.heap.size < w1.heap.size := by omega); (try have hm1_0_0 : w.heap.size ≤ w1.heap.size := by omega); (try have hl1_0_1 : w.heap.size + 1 < w1.heap.size := by omega); (try have hl1_0_2 : w.heap.size + 2 < w1.heap.size := by omega)
              go_wp2
              go_roundw
              case rel => exact ⟨kk + 1, by omega, by go_num, (by repeat (first | with_reducible exact Gr.refl _ | with_reducible assumption | refine Gr.setCell ?_ (by first | omega | (simp; done) | (simp; omega)) _ | refine Gr.alloc ?_ _ | refine Gr.drew ?_ | refine Gr.drewN ?_ _ | refine Gr.trans ?_ (by with_reducible assumption))), hs⟩
              case measure => simp [RowKit.intOf]; omega
          · have r1 : (sa.t == sb.f) = false := by simp [d1]
            have hs := Lib.hid (hstep.out (fun h => d1 h.1))
            clear d1 oka okb hl1 hl2 hstep HL
            go_wp2
            refine wp_region_gr (by kernel_rfl) (by kernel_rfl) (fun hq1 hq2 => ?_)
            repeat (first | go_big_quiet_skip | (go_big_quiet_want; go_big_quiet_op; first | go_big_quiet_on | (apply Exists.intro; refine ⟨fun _ => ?_, ?_⟩; (· (fail)); go_big_quiet_on)))
            refine wpQuiet_nil ?_
            clear hq1 hq2
            rintro w1 ⟨⟨_, hg1⟩, rfl⟩
            obtain ⟨hc1, hf1⟩ := hg1.cells
            have hz1 := hg1.size
            (try simp at hz1); (try have hl1_0_0 : w.heap.size < w1.heap.size := by omega); (try have hm1_0_0 : w.heap.size ≤ w1.heap.size := by omega); (try have hl1_0_1 : w.heap.size + 1 < w1.heap.size := by omega); (try have hl1_0_2 : w.heap.size + 2 < w1.heap.size := by omega)
            go_wp2
            go_roundw
            case rel => exact ⟨kk + 1, by omega, by go_num, (by repeat (first | with_reducible exact Gr.refl _ | with_reducible assumption | refine Gr.setCell ?_ (by first | omega | (simp; done) | (simp; omega)) _ | refine Gr.alloc ?_ _ | refine Gr.drew ?_ | refine Gr.drewN ?_ _ | refine Gr.trans ?_ (by with_reducible assumption))), hs⟩
            case measure => simp [RowKit.intOf]; omega
        · have q2 : decide (kk < cs.length) = false := decide_eq_false c2
          have hs : Hid (∀ (i k : Nat) x y, i < ii + 1 → cs[i]? = some x → cs[k]? = some y → ¬ (x.t = y.f ∧ x.ss = y.ss)) := Lib.hid fun i k x y hi hx hy => by
            rcases Nat.lt_or_ge i ii with h | h
            · exact hno.out i k x y h hx hy
            · obtain rfl : i = ii := by omega
              exact hno2.out k x y (by have := (List.getElem?_eq_some_iff.1 hy).1; omega) hx hy
          clear hno hno2
          go_wp2
          go_roundw
          case rel => exact ⟨ii + 1, by omega, by go_num, hg2, hs⟩
          case measure => simp [RowKit.intOf]; omega
    · have q1 : decide (ii < cs.length) = false := decide_eq_false c1
      have hs : Hid (NoT (cs.map cAbs)) := Lib.hid fun x hx y hy => by
        obtain ⟨u, hu, rfl⟩ := List.mem_map.1 hx
        obtain ⟨z, hz, rfl⟩ := List.mem_map.1 hy
        obtain ⟨i, hi, rfl⟩ := List.getElem_of_mem hu
        obtain ⟨k, hk, rfl⟩ := List.getElem_of_mem hz
        exact hno.out i k _ _ (by omega) (List.getElem?_eq_getElem hi) (List.getElem?_eq_getElem hk)
      clear hno
      go_wp2
      go_ret
      exact ⟨false, rfl, (by repeat (first | with_reducible exact Gr.refl _ | with_reducible assumption | refine Gr.setCell ?_ (by first | omega | (simp; done) | (simp; omega)) _ | refine Gr.alloc ?_ _ | refine Gr.drew ?_ | refine Gr.drewN ?_ _ | refine Gr.trans ?_ (by with_reducible assumption))), fun _ => hs.out⟩
end Go.Proofs.YthadhmhbbfjomaaGreatDoor
