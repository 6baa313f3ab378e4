
/-
  Contracts of At of package captions and of the reference.
  Conditions: the captions lie in memory.
-/
import Derived.Test.YthadhmhbbfjomaaGreatDoorWalkOr
namespace Go.Proofs.YthadhmhbbfjomaaGreatDoor
open Go.RowKit Go.Lib
set_option linter.unusedSimpArgs false
set_option linter.unusedVariables false

/-- the lines of the first caption that shows frame n -/
def findA (n : Int) : List Cu → Option (List ByteArray)
  | [] => none
  | c :: l => if c.f ≤ n ∧ n < c.t then some c.ss else findA n l
def atV (cs : List Cu) (n : Int) : Option (List ByteArray) := if vCues cs then findA n cs else none
theorem findA_len {n : Int} : ∀ {cs : List Cu} {ss : List ByteArray}, vCues cs = true → findA n cs = some ss → ss.length ≤ 4
  | c :: l, ss, hv, h => by
    unfold findA at h
    split at h
    · injection h with h
      subst h
      exact (vCu_bounds (vCues_mem hv (List.mem_cons_self ..))).2.2.2.2.1
    · exact findA_len (by unfold vCues at hv ⊢; rw [List.all_cons, Bool.and_eq_true] at hv; exact hv.2) h
/-- what At hands back -/
def AtR (w : World) (e : Ending) (w' : World) (cs : List Cu) (n : Int) : Prop :=
  ∃ v ss, e = .returned (.tuple #[v, .bool (atV cs n).isSome]) ∧ Gr w w' ∧ StrsR w' v ss ∧ ss.length ≤ 140737488355328 ∧ ss = (atV cs n).getD []

set_option maxRecDepth 20000 in
set_option maxHeartbeats 4000000 in
theorem cat_any (v : Value) (cs : List Cu) (n : Int) (w : World) (hC : Cues w v cs) (hn : -9223372036854775808 ≤ n ∧ n ≤ 9223372036854775807) :
    Calls Tryz.prog 6 #[v, .int .i64 n] w fun e w' => AtR w e w' cs n := by
  unfold AtR
  have HV : Hid (∀ w', Gr w w' → Calls Tryz.prog 19 #[v] w' fun e w'' => e = .returned (.bool (vCues cs)) ∧ Gr w' w'') := fun w' hg => cvalid_any _ _ w' (hC.gr hg)
  obtain ⟨a, cap, rfl, ha⟩ := hC.at_.shape
  have hlen := hC.n
  have hmf := hmf_any Tryz.prog
  cases hv : vCues cs with
  | false =>
    have hA : atV cs n = none := by unfold atV; rw [hv]; rfl
    rw [hv] at HV
    rw [hA]
    clear ha hC hv hA
    go_enter_defers Tryz.func6, Tryz.ntmps6
    go_wp2_with (go_at_call 19; (with_reducible refine (HV.out _ ?_).mono ?_); (· exact (by repeat (first | with_reducible exact Gr.refl _ | with_reducible assumption | refine Gr.setCell ?_ (by first | omega | (simp; done) | (simp; omega)) _ | refine Gr.alloc ?_ _ | refine Gr.drew ?_ | refine Gr.drewN ?_ _ | refine Gr.trans ?_ (by with_reducible assumption)))); rintro e w1 ⟨rfl, hg1⟩; obtain ⟨kc1, kc2⟩ := res_cells _ _ _ _ _ _ hg1; obtain ⟨k1, k3⟩ := kc1.one; obtain ⟨k2, k4⟩ := kc2.one; clear kc1 kc2)
    have hz := hg1.size
    simp at hz
    refine leaves_cons (f := 18) (args := #[.pointer (some ⟨w.heap.size, 0, none⟩), .pointer (some ⟨w.heap.size + 1, 0, none⟩)]) (by simp) (by simp [go_sem]) ?_
    refine (atD_idle _ _ _).mono ?_
    rintro e u' w'' ⟨rfl, rfl, rfl⟩
    simp [Leaves, settle, results, Tryz.results6, go_sem, k1, k2]
    exact ⟨(by repeat (first | with_reducible exact Gr.refl _ | with_reducible assumption | refine Gr.setCell ?_ (by first | omega | (simp; done) | (simp; omega)) _ | refine Gr.alloc ?_ _ | refine Gr.drew ?_ | refine Gr.drewN ?_ _ | refine Gr.trans ?_ (by with_reducible assumption))), StrsR.nil _⟩
  | true =>
  obtain ⟨R, hR⟩ : ∃ R, findA n cs = R := ⟨_, rfl⟩
  have hA : atV cs n = R := by unfold atV; rw [hv, ← hR]; rfl
  have h4 : Hid (∀ ss, R = some ss → ss.length ≤ 4) := fun ss h => findA_len hv (hR.trans h)
  rw [hA]
  rw [hv] at HV
  clear hv hA
  have hC := Lib.hid hC
  have HS : Hid (findA n (cs.drop 0) = R) := hR
  clear hR
  have ha := Lib.hid ha
  go_enter_defers Tryz.func6, Tryz.ntmps6
  go_wp2_with (go_at_call 19; (with_reducible refine (HV.out _ ?_).mono ?_); (· exact (by repeat (first | with_reducible exact Gr.refl _ | with_reducible assumption | refine Gr.setCell ?_ (by first | omega | (simp; done) | (simp; omega)) _ | refine Gr.alloc ?_ _ | refine Gr.drew ?_ | refine Gr.drewN ?_ _ | refine Gr.trans ?_ (by with_reducible assumption)))); rintro e w1 ⟨rfl, hg1⟩)
  have hg0 : Gr w w1 := (((Gr.refl w).alloc _).alloc _).trans hg1
  obtain ⟨kr1, kr2⟩ := res_cells _ _ _ _ _ _ hg1
  clear hg1
  go_loopw [14] (fun k wr => ∃ kk : Nat, kk ≤ cs.length ∧ k = .int .i64 kk ∧ Hid (findA n (cs.drop kk) = R) ∧ Gr w wr ∧ Cel wr w.heap.size [.slice none 0 0] ∧ Cel wr (w.heap.size + 1) [.bool false]) (fun k _ => cs.length - (RowKit.intOf k).toNat)
  case atStart => exact ⟨0, Nat.zero_le _, rfl, HS, hg0, kr1, kr2⟩
  case round =>
    obtain ⟨kk, h3, rfl, hno, hg, kc1, kc2⟩ := hrel
    clear HS HV hg0 kr1 kr2 w1
    obtain ⟨hcg, hfg⟩ := hg.cells
    have hsz := kc2.lt
    by_cases c1 : kk < cs.length
    · have q6 : decide (kk < cs.length) = true := decide_eq_true c1
      rcases ha.out with ha2 | ⟨b, o, rfl, hb, hc⟩
      · omega
      have hx1 : b < wr.heap.size := Nat.lt_of_lt_of_le hb hg.size
      have hd := hno.out
      rw [List.drop_eq_getElem_cons c1] at hd
      unfold findA at hd
      have hc := hc kk c1
      have e0 := (hcg b _ hb).trans hc.1
      have e1 := (hcg b _ hb).trans hc.2.1
      have e2 := (hcg b _ hb).trans hc.2.2
      have hst := (hC.out.at_.2 _ (List.getElem_mem c1)).gr hg
      generalize cs[kk] = c at hd e0 e1 e2 hst
      clear hc hcg hfg ha hC hno
      obtain ⟨p2, cap2, hl2, hh2⟩ := hst.shape
      clear hh2
      rw [hl2] at e2
      have kc1' := Lib.hid kc1
      have kc2' := Lib.hid kc2
      clear kc1 kc2
      by_cases d1 : c.f ≤ n ∧ n < c.t
      · rw [if_pos d1] at hd
        obtain ⟨d1, d2⟩ := d1
        have r1 : decide (c.f ≤ n) = true := decide_eq_true d1
        have r2 : decide (n < c.t) = true := decide_eq_true d2
        have hl4 : c.ss.length ≤ 4 := h4.out _ hd.symm
        have hV : Hid (R = some c.ss) := hd.symm
        clear hd h4
        have HL : Hid (∀ w', Gr wr w' → Calls Tryz.prog 20 #[.slice p2 c.ss.length cap2] w' fun e w'' => ∃ v', e = .returned v' ∧ Gr w' w'' ∧ StrsR w'' v' c.ss ∧ (∀ base e', 9 ≠ e' → Far base e' w'' v') ∧ ∀ k, v'.ownBlock = some k → w'.heap.size ≤ k) := fun w' hg' => by
          have := clone_any c.lv c.ss w' (hst.gr hg') (by omega)
          rw [hl2] at this
          exact this
        clear hst
        obtain ⟨f1, f3⟩ := kc1'.out.one
        obtain ⟨f2, f4⟩ := kc2'.out.one
        go_wp2_with (go_at_call 20; (with_reducible refine (HL.out _ ?_).mono ?_); (· exact (by repeat (first | with_reducible exact Gr.refl _ | with_reducible assumption | refine Gr.setCell ?_ (by first | omega | (simp; done) | (simp; omega)) _ | refine Gr.alloc ?_ _ | refine Gr.drew ?_ | refine Gr.drewN ?_ _ | refine Gr.trans ?_ (by with_reducible assumption)))); rintro e w2 ⟨lv, rfl, hg2, hs2, hf2, hk2⟩; obtain ⟨p3, cap3, rfl, hh3⟩ := hs2.shape; clear hh3; obtain ⟨g1, g3⟩ := ((kc1'.out.alloc _).gr hg2).one; obtain ⟨g2, g4⟩ := ((kc2'.out.alloc _).gr hg2).one; have hz2 := hg2.size; simp at hz2)
        refine leaves_cons (f := 18) (args := #[.pointer (some ⟨w.heap.size, 0, none⟩), .pointer (some ⟨w.heap.size + 1, 0, none⟩)]) (by simp) (by simp [go_sem]) ?_
        refine (atD_idle _ _ _).mono ?_
        rintro e u' w'' ⟨rfl, rfl, rfl⟩
        have hV := hV.out
        subst hV
        have n1 : w.heap.size < w2.heap.size := by omega
        have n2 : w.heap.size + 1 < w2.heap.size := by omega
        simp [Leaves, settle, results, Tryz.results6, go_sem, g1, g2]
        refine ⟨(by repeat (first | with_reducible exact Gr.refl _ | with_reducible assumption | refine Gr.setCell ?_ (by first | omega | (simp; done) | (simp; omega)) _ | refine Gr.alloc ?_ _ | refine Gr.drew ?_ | refine Gr.drewN ?_ _ | refine Gr.trans ?_ (by with_reducible assumption))), Rd.setCell ⟨w.heap.size + 1, 0, none⟩ _ (fun h => by have := hk2 _ h; simp at this; omega) (Rd.setCell ⟨w.heap.size, 0, none⟩ _ (fun h => by have := hk2 _ h; simp at this; omega) hs2), by omega⟩
      · rw [if_neg d1] at hd
        have hV : Hid (findA n (cs.drop (kk + 1)) = R) := hd
        clear hd h4 hst
        by_cases d2 : c.f ≤ n
        · have r1 : decide (c.f ≤ n) = true := decide_eq_true d2
          have r2 : decide (n < c.t) = false := decide_eq_false (fun h => d1 ⟨d2, h⟩)
          go_wp2
          go_roundw
          case rel => exact ⟨kk + 1, by omega, by go_num, hV, hg.alloc _, kc1'.out.alloc _, kc2'.out.alloc _⟩
          case measure => simp [RowKit.intOf]; omega
        · have r1 : decide (c.f ≤ n) = false := decide_eq_false d2
          go_wp2
          go_roundw
          case rel => exact ⟨kk + 1, by omega, by go_num, hV, hg.alloc _, kc1'.out.alloc _, kc2'.out.alloc _⟩
          case measure => simp [RowKit.intOf]; omega
    · have q6 : decide (kk < cs.length) = false := decide_eq_false c1
      have hV : Hid (R = none) := by
        have hd := hno.out
        rw [List.drop_of_length_le (by omega)] at hd
        exact hd.symm
      clear hno ha hcg hfg hC h4
      obtain ⟨k1, k3⟩ := kc1.one
      obtain ⟨k2, k4⟩ := kc2.one
      go_wp2
      refine leaves_cons (f := 18) (args := #[.pointer (some ⟨w.heap.size, 0, none⟩), .pointer (some ⟨w.heap.size + 1, 0, none⟩)]) (by simp) (by simp [go_sem]) ?_
      refine (atD_idle _ _ _).mono ?_
      rintro e u' w'' ⟨rfl, rfl, rfl⟩
      have hV := hV.out
      subst hV
      simp [Leaves, settle, results, Tryz.results6, go_sem, k1, k2]
      exact ⟨(by repeat (first | with_reducible exact Gr.refl _ | with_reducible assumption | refine Gr.setCell ?_ (by first | omega | (simp; done) | (simp; omega)) _ | refine Gr.alloc ?_ _ | refine Gr.drew ?_ | refine Gr.drewN ?_ _ | refine Gr.trans ?_ (by with_reducible assumption))), StrsR.nil _⟩
end Go.Proofs.YthadhmhbbfjomaaGreatDoor
