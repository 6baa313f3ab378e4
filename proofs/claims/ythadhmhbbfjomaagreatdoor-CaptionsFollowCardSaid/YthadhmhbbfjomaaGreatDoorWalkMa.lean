/-
  Contracts of the small parts of a medium's check in package timeline.
  Conditions: the captions lie in memory.
-/
import Derived.Test.YthadhmhbbfjomaaGreatDoorWalkVa
import Derived.Deep.WholeRow
import Derived.Test.YthadhmhbbfjomaaGreatDoorWalkF
namespace Go.Proofs.YthadhmhbbfjomaaGreatDoor
open Go.RowKit Go.Lib
set_option linter.unusedSimpArgs false
set_option linter.unusedVariables false

/-- a whole struct, as a list of cells, into a box just made -/
theorem st_fresh {P : Program} (w : World) (t : TypeId) (c : Array Value) (l : List Value) (hi : (P.info? t).map (·.size) = some l.length) (ho : c.size = l.length) (h1 : ∀ v ∈ l, v.oneCell' = true) :
    (storeCells ⟨w.heap.size, 0, none⟩ l 0).run P (w.alloc (.cells c t)) = .ok () (w.alloc (.cells l.toArray t)) := by
  have := run_storeCells_new (P := P) w t c l.toArray (by simpa using hi) (by simpa using ho) (by simpa using h1)
  simpa using this
set_option maxHeartbeats 1000000 in
theorem name_a (w : World) : Calls Tryz.prog 47 #[.string ⟨#[97]⟩] w fun e w' => e = .returned (.bool true) ∧ Gr w w' := by
  go_enter Tryz.func47, Tryz.ntmps47
  go_wp2
  go_loop [3, 4, 15] (fun _ _ k => ∃ kk : Nat, kk ≤ 1 ∧ k = .int .i64 kk) (fun _ _ k => 1 - (RowKit.intOf k).toNat)
  case atStart => exact ⟨0, by omega, rfl⟩
  case round =>
    obtain ⟨kk, hk, rfl⟩ := hrel
    rcases (show kk = 0 ∨ kk = 1 by omega) with rfl | rfl
    · go_wp2
      exact ⟨⟨1, by omega, by go_num⟩, by simp [RowKit.intOf]⟩
    · go_wp2
      go_ret
      exact ⟨rfl, (by repeat (first | with_reducible exact Gr.refl _ | with_reducible assumption | refine Gr.setCell ?_ (by first | omega | (simp; done) | (simp; omega)) _ | refine Gr.alloc ?_ _ | refine Gr.drew ?_ | refine Gr.drewN ?_ _ | refine Gr.trans ?_ (by with_reducible assumption)))⟩
theorem rate_25 (w : World) : Calls Tryz.prog 48 #[.agg #[.int .i64 25, .int .i64 1]] w fun e w' => e = .returned (.bool true) ∧ Gr w w' := by
  have HV : Hid (∀ w, Calls Tryz.prog 74 #[.agg #[.int .i64 25, .int .i64 1]] w fun e w' => e = .returned (.bool true) ∧ Gr w w') := Lib.hid fun w => by
    have := valid_any 25 1 w ⟨by omega, by omega⟩ ⟨by omega, by omega⟩
    rwa [show vB 25 1 = true by decide +kernel] at this
  go_enter Tryz.func48, Tryz.ntmps48
  go_wp2_with (go_at_call 74; (with_reducible refine (HV.out _).mono ?_); rintro e w1 ⟨rfl, hg1⟩; have hb := (Cel.new w #[.int .i64 25, .int .i64 1] 27).gr hg1; obtain ⟨q0, q1, q2, q3, q4⟩ := hb.two)
  go_ret
  exact ⟨rfl, (by repeat (first | refine Gr.setCell ?_ (by first | omega | (simp; done) | (simp; omega)) _ | refine Gr.alloc ?_ _ | refine Gr.drew ?_ | refine Gr.drewN ?_ _ | with_reducible assumption | with_reducible exact Gr.refl _ | refine Gr.trans ?_ (by with_reducible assumption)))⟩
theorem count_any (n : Int) (w : World) (h : 0 ≤ n ∧ n ≤ 2147483647) : Calls Tryz.prog 49 #[.int .i64 n] w fun e w' => e = .returned (.bool true) ∧ Gr w w' := by
  have q1 : decide (0 ≤ n) = true := decide_eq_true h.1
  have q2 : decide (n ≤ 2147483647) = true := decide_eq_true h.2
  go_enter Tryz.func49, Tryz.ntmps49
  go_wp2
  go_ret
  exact ⟨rfl, (by repeat (first | refine Gr.setCell ?_ (by first | omega | (simp; done) | (simp; omega)) _ | refine Gr.alloc ?_ _ | refine Gr.drew ?_ | refine Gr.drewN ?_ _ | with_reducible assumption | with_reducible exact Gr.refl _ | refine Gr.trans ?_ (by with_reducible assumption)))⟩
theorem chan_zero (w : World) : Calls Tryz.prog 50 #[.int .i64 0] w fun e w' => e = .returned (.bool true) ∧ Gr w w' := by
  go_enter Tryz.func50, Tryz.ntmps50
  go_wp2
  go_ret
  exact ⟨rfl, (by repeat (first | refine Gr.setCell ?_ (by first | omega | (simp; done) | (simp; omega)) _ | refine Gr.alloc ?_ _ | refine Gr.drew ?_ | refine Gr.drewN ?_ _ | with_reducible assumption | with_reducible exact Gr.refl _ | refine Gr.trans ?_ (by with_reducible assumption)))⟩
set_option maxHeartbeats 2000000 in
theorem tvalid_any (v : Value) (cs : List Cu) (w : World) (hC : Cues w v cs) :
    Calls Tryz.prog 51 #[v] w fun e w' => e = .returned (.bool (vCues cs)) ∧ Gr w w' := by
  obtain ⟨a, cap, rfl, ha⟩ := hC.at_.shape
  have hlen := hC.n
  have hC := Lib.hid hC
  obtain ⟨R, hR⟩ : ∃ R, vCues cs = R := ⟨_, rfl⟩
  rw [hR]
  have HS : Hid ((cs.drop 0).all vCu = R) := hR
  clear hR
  have ha := Lib.hid ha
  go_enter Tryz.func51, Tryz.ntmps51
  go_wp2
  go_loopw [7] (fun k wr => ∃ kk : Nat, kk ≤ cs.length ∧ k = .int .i64 kk ∧ Hid ((cs.drop kk).all vCu = R) ∧ Gr w wr) (fun k _ => cs.length - (RowKit.intOf k).toNat)
  case atStart => exact ⟨0, Nat.zero_le _, rfl, HS, (by repeat (first | with_reducible exact Gr.refl _ | with_reducible assumption | refine Gr.setCell ?_ (by first | omega | (simp; done) | (simp; omega)) _ | refine Gr.alloc ?_ _ | refine Gr.drew ?_ | refine Gr.drewN ?_ _ | refine Gr.trans ?_ (by with_reducible assumption)))⟩
  case round =>
    obtain ⟨kk, h3, rfl, hno, hg⟩ := hrel
    clear HS
    obtain ⟨hcg, hfg⟩ := hg.cells
    by_cases c1 : kk < cs.length
    · have q6 : decide (kk < cs.length) = true := decide_eq_true c1
      rcases ha.out with ha2 | ⟨b, o, rfl, hb, hc⟩
      · omega
      have hd := hno.out
      rw [List.drop_eq_getElem_cons c1, List.all_cons] at hd
      have hc := hc kk c1
      have e0 := (hcg b _ hb).trans hc.1
      have e1 := (hcg b _ hb).trans hc.2.1
      have e2 := (hcg b _ hb).trans hc.2.2
      have hok := hC.out.ok _ (List.getElem_mem c1)
      have hst := (hC.out.at_.2 _ (List.getElem_mem c1)).gr hg
      generalize cs[kk] = c at hd e0 e1 e2 hok hst
      clear hc
      have hall : Hid (∀ w', Gr wr w' → Calls Tryz.prog 36 #[.agg #[.int .i64 c.f, .int .i64 c.t, c.lv]] w' fun e w'' => e = .returned (.bool (vCu c)) ∧ Gr w' w'') :=
        fun w' hg' => validCue_any c.f c.t c.lv c.ss w' ⟨hok.f1, hok.f2⟩ ⟨hok.t1, hok.t2⟩ (hst.gr hg') hok.s hok.n
      obtain ⟨a2, cap2, hlv, hsh⟩ := hst.shape
      clear hsh
      cases hv : vCu c with
      | false =>
        rw [hv] at hd hall
        have hV : Hid (R = false) := hd.symm
        clear hd hno hv ha hcg hfg hC hst
        rw [hlv] at e2 hall
        clear hlv hok
        go_wp2_with (go_at_call 36; (with_reducible refine (hall.out _ ?_).mono ?_); (· exact (by repeat (first | with_reducible exact Gr.refl _ | with_reducible assumption | refine Gr.setCell ?_ (by first | omega | (simp; done) | (simp; omega)) _ | refine Gr.alloc ?_ _ | refine Gr.drew ?_ | refine Gr.drewN ?_ _ | refine Gr.trans ?_ (by with_reducible assumption)))); rintro e w1 ⟨rfl, hg1⟩)
        go_ret
        exact ⟨by rw [hV.out]; rfl, (by repeat (first | with_reducible exact Gr.refl _ | with_reducible assumption | refine Gr.setCell ?_ (by first | omega | (simp; done) | (simp; omega)) _ | refine Gr.alloc ?_ _ | refine Gr.drew ?_ | refine Gr.drewN ?_ _ | refine Gr.trans ?_ (by with_reducible assumption)))⟩
      | true =>
        rw [hv] at hd hall
        have hV : Hid ((cs.drop (kk + 1)).all vCu = R) := hd
        clear hd hno hv ha hcg hfg hC hst
        rw [hlv] at e2 hall
        clear hlv hok
        go_wp2_with (go_at_call 36; (with_reducible refine (hall.out _ ?_).mono ?_); (· exact (by repeat (first | with_reducible exact Gr.refl _ | with_reducible assumption | refine Gr.setCell ?_ (by first | omega | (simp; done) | (simp; omega)) _ | refine Gr.alloc ?_ _ | refine Gr.drew ?_ | refine Gr.drewN ?_ _ | refine Gr.trans ?_ (by with_reducible assumption)))); rintro e w1 ⟨rfl, hg1⟩)
        go_roundw
        case rel => exact ⟨kk + 1, by omega, by go_num, hV, (by repeat (first | with_reducible exact Gr.refl _ | with_reducible assumption | refine Gr.setCell ?_ (by first | omega | (simp; done) | (simp; omega)) _ | refine Gr.alloc ?_ _ | refine Gr.drew ?_ | refine Gr.drewN ?_ _ | refine Gr.trans ?_ (by with_reducible assumption)))⟩
        case measure => simp [RowKit.intOf]; omega
    · have q6 : decide (kk < cs.length) = false := decide_eq_false c1
      have hV : Hid (R = true) := by
        have hd := hno.out
        rw [List.drop_of_length_le (by omega)] at hd
        exact hd.symm
      clear hno ha hcg hfg hC
      go_wp2
      go_ret
      exact ⟨by rw [hV.out]; rfl, (by repeat (first | with_reducible exact Gr.refl _ | with_reducible assumption | refine Gr.setCell ?_ (by first | omega | (simp; done) | (simp; omega)) _ | refine Gr.alloc ?_ _ | refine Gr.drew ?_ | refine Gr.drewN ?_ _ | refine Gr.trans ?_ (by with_reducible assumption)))⟩
end Go.Proofs.YthadhmhbbfjomaaGreatDoor
