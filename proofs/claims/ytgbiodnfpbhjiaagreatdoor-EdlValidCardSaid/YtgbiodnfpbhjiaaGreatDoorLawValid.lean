import Derived.Test.YtgbiodnfpbhjiaaGreatDoorWalkEg
import Derived.Test.YtgbiodnfpbhjiaaGreatDoorMathFb
import Derived.Deep.DeepCutAuto
import Derived.Test.YtgbiodnfpbhjiaaGreatDoorLawLines
/-
  Walk of the law EdlValid, over the contracts of what it calls.
  Conditions: those contracts; the list given lies in memory.
-/
namespace Go.Proofs.YtgbiodnfpbhjiaaGreatDoor
open Go.RowKit Go.Lib
set_option linter.unusedSimpArgs false
set_option linter.unusedVariables false

set_option maxRecDepth 20000 in
set_option maxHeartbeats 16000000 in
theorem lawValid_core (a : Option Addr) (cap : Nat) (xs : List Int) (raw : El) (rv : Value) (which by_ : Int) (w : World) (hraw : ElR w rv raw) (hwh : -9223372036854775808 ≤ which ∧ which ≤ 9223372036854775807) (hby : -9223372036854775808 ≤ by_ ∧ by_ ≤ 9223372036854775807)
    (HM : Hid (∀ w0, Gr w w0 → Calls Tryz.prog 12 #[.slice a xs.length cap] w0 fun e w' => ∃ (l : El) (v : Value) (base : Nat), e = .returned (l.val v) ∧ Gr w0 w' ∧ w'.ownsRow base 30 8 v l.evs.length (eflat l.evs) ∧ w0.heap.size < base ∧ l.evs.length ≤ 6 ∧ vEl l = true ∧ l.title.size ≤ 100 ∧ ∀ e ∈ l.evs, e.reel.size ≤ 100 ∧ 0 ≤ e.o ∧ e.o ≤ 10000000 ∧ 0 ≤ e.f ∧ e.f ≤ 10000000 ∧ 0 ≤ e.t ∧ e.t ≤ 10000000 ∧ 0 ≤ e.fr ∧ e.fr ≤ 999 ∧ 0 ≤ e.p ∧ e.p ≤ 3))
    (HW : Hid (∀ w', Gr w w' → Calls Tryz.prog 15 #[] w' fun e w'' => e = .returned (.bool true) ∧ Gr w' w'')) :
    Calls Tryz.prog 3 #[raw.val rv, .slice a xs.length cap, .int .i64 which, .int .i64 by_] w fun e w' => e = .returned (.bool true) ∧ Gr w w' := by
  have HE : Hid (∀ (l : El) (v : Value) (w' : World), ElR w' v l → Calls Tryz.prog 13 #[l.val v] w' fun e w'' => e = .returned (.bool (vEl l)) ∧ Gr w' w'') := Lib.hid evalid_any
  have HR : Hid (∀ (l : El) (v : Value) (w' : World), ElR w' v l → Calls Tryz.prog 14 #[l.val v] w' fun e w'' => e = .returned (.bool (vEl l)) ∧ Gr w' w'') := Lib.hid revalid_any
  have HRA : Hid (∀ w', Gr w w' → (Calls Tryz.prog 13 #[raw.val rv] w' fun e w'' => e = .returned (.bool (vEl raw)) ∧ Gr w' w'') ∧ (Calls Tryz.prog 14 #[raw.val rv] w' fun e w'' => e = .returned (.bool (vEl raw)) ∧ Gr w' w'')) := fun w' hg => ⟨HE.out raw rv w' (hraw.gr hg), HR.out raw rv w' (hraw.gr hg)⟩
  obtain ⟨Rw, hRw⟩ : ∃ Rw, vEl raw = Rw := ⟨_, rfl⟩
  rw [hRw] at HRA
  clear hRw hraw
  obtain ⟨rt, rb, rd, revs⟩ := raw
  unfold El.val at HRA ⊢
  simp only at HRA ⊢
  go_enter Tryz.func3, Tryz.ntmps3
  go_upto_region 3 with (first
    | (go_at_call 12; (with_reducible refine (HM.out _ ?_).mono ?_); (· exact (Gr.refl w).alloc _); rintro e w1 ⟨⟨title, lb, ld, evs⟩, v, base, rfl, hg1, hown, hbase, hn, hv, ht, hev⟩; unfold El.val; (simp only at hown hn ht hev ⊢); obtain ⟨p, c, rfl⟩ := own_shape hown))
  have hgw1 : Gr w (w1.alloc (.cells #[.string title, .int .i64 lb, .bool ld, .slice p evs.length c] 24)) := (((Gr.refl w).alloc _).trans hg1).alloc _
  have hbox := Cel.new w1 #[.string title, .int .i64 lb, .bool ld, .slice p evs.length c] 24
  have hownA := own_gr ((Gr.refl w1).alloc (.cells #[.string title, .int .i64 lb, .bool ld, .slice p evs.length c] 24)) hown
  have hRb := (Cel.new w #[.string rt, .int .i64 rb, .bool rd, rv] 24).gr (hg1.trans ((Gr.refl w1).alloc (.cells #[.string title, .int .i64 lb, .bool ld, .slice p evs.length c] 24)))
  have HE2 : Hid (∀ w', Gr (w1.alloc (.cells #[.string title, .int .i64 lb, .bool ld, .slice p evs.length c] 24)) w' → (Calls Tryz.prog 13 #[.agg #[.string title, .int .i64 lb, .bool ld, .slice p evs.length c]] w' fun e w'' => e = .returned (.bool true) ∧ Gr w' w'') ∧ (Calls Tryz.prog 14 #[.agg #[.string title, .int .i64 lb, .bool ld, .slice p evs.length c]] w' fun e w'' => e = .returned (.bool true) ∧ Gr w' w'')) := fun w' hg => by
    have hR : ElR w' (.slice p evs.length c) ⟨title, lb, ld, evs⟩ := ⟨(Rd.own hownA).gr hg, by simp only; omega, fun e he => by have := (hev e he).1; omega, by simp only; omega⟩
    have e1 := HE.out ⟨title, lb, ld, evs⟩ _ w' hR
    have e2 := HR.out ⟨title, lb, ld, evs⟩ _ w' hR
    rw [hv] at e1 e2
    exact ⟨e1, e2⟩
  have hlt := hown.lt
  have hbs : w.heap.size < base := by simp at hbase; omega
  have hsz1 := hg1.size
  simp at hsz1
  clear hown hg1
  generalize hWA : w1.alloc (.cells #[.string title, .int .i64 lb, .bool ld, .slice p evs.length c] 24) = WA at *
  obtain ⟨L, hL⟩ : ∃ L, w1.heap.size = L := ⟨_, rfl⟩
  rw [hL] at hbox ⊢
  rw [hL] at hsz1 hlt
  have hLb : w.heap.size < L := hsz1
  clear hWA hL
  go_upto_if 27 with (first
    | (go_at_call 13; (with_reducible refine (HE2.out _ ?_).1.mono ?_); (· exact Gr.refl _); rintro e w2 ⟨rfl, hg2⟩; have hb2 := hbox.gr hg2; have x0 := hb2.lt; have x1 := (hb2.2 0 _ rfl).1; have x2 := (hb2.2 1 _ rfl).1; have x3 := (hb2.2 2 _ rfl).1; have x4 := (hb2.2 3 _ rfl).1)
    | (go_at_call 14; (with_reducible refine (HE2.out _ hg2).2.mono ?_); rintro e w3 ⟨rfl, hg3⟩; have hb3 := hb2.gr hg3; have y0 := hb3.lt; have y1 := (hb3.2 3 _ rfl).1))
  have hg23 := hg2.trans hg3
  clear y0 y1 hb2 x0 x1 x2 x3 x4 hg2 hg3
  have hgw3 := hgw1.trans hg23
  have hown3 := own_gr hg23 hownA
  have hRb3 := hRb.gr hg23
  have hb4 := (hb3.2 3 _ rfl).1
  have hb5 := hb3.lt
  clear hgw1 hg23 hownA hRb HE2 hbox
  go_cut [10] (fun _ wx => ∃ evs' : List Ev, evs'.length = evs.length ∧ Gr w wx ∧ Cel wx L [.string title, .int .i64 lb, .bool ld, .slice p evs.length c] ∧ Cel wx w.heap.size [.string rt, .int .i64 rb, .bool rd, rv] ∧ wx.ownsRow base 30 8 (.slice p evs.length c) evs'.length (eflat evs') ∧ (∀ e ∈ evs', e.reel.size ≤ 100))
  case first => as_aux_lemma =>
    by_cases z : 0 < evs.length
    · have qz : decide (0 < (evs.length : Int)) = true := decide_eq_true (by omega)
      obtain ⟨g, rfl⟩ : ∃ g, p = some ⟨g, 0, none⟩ := by
        rcases hown3.2 with ⟨e, e2⟩ | ⟨g, cap', cur, e, _⟩
        · injection e with e1 e2 e3
          omega
        · injection e with e1
          exact ⟨g, e1⟩
      have hne : (evs.length : Int) ≠ 0 := by omega
      obtain ⟨i, hi, hlt'⟩ : ∃ i : Nat, ((which.tmod (evs.length : Int) + (evs.length : Int)).tmod (evs.length : Int)) = (i : Int) ∧ i < evs.length := by
        have h1 := Int.tmod_lt_of_pos which (show 0 < (evs.length : Int) by omega)
        have h2 := Int.lt_tmod_of_pos which (show 0 < (evs.length : Int) by omega)
        have h3 : 0 ≤ which.tmod (evs.length : Int) + (evs.length : Int) := by omega
        have h4 := Int.tmod_lt_of_pos (which.tmod (evs.length : Int) + (evs.length : Int)) (show 0 < (evs.length : Int) by omega)
        have h5 := Int.tmod_nonneg (evs.length : Int) h3
        exact ⟨((which.tmod (evs.length : Int) + (evs.length : Int)).tmod (evs.length : Int)).toNat, by omega, by omega⟩
      obtain ⟨q0, hq0⟩ : ∃ q0, which.tmod (evs.length : Int) + (evs.length : Int) = q0 := ⟨_, rfl⟩
      have hqw : wrap64 (which.tmod (evs.length : Int) + (evs.length : Int)) = q0 := by
        have h1 := Int.tmod_lt_of_pos which (show 0 < (evs.length : Int) by omega)
        have h2 := Int.lt_tmod_of_pos which (show 0 < (evs.length : Int) by omega)
        rw [hq0]
        unfold wrap64; omega
      rw [hq0] at hi
      clear hq0
      have hlt'' : 0 ≤ (i : Int) ∧ (i : Int) < (evs.length : Int) := by omega
      go_upto_region 6 with fail
      refine wp_region_gr (by kernel_rfl) (by kernel_rfl) (fun hq1 hq2 => ?_)
      repeat (first | go_big_quiet_skip | (go_big_quiet_want; go_big_quiet_op; first | go_big_quiet_on | (apply Exists.intro; refine ⟨fun _ => ?_, ?_⟩; (· (fail)); go_big_quiet_on)))
      refine wpQuiet_nil ?_
      clear hq1 hq2
      rintro w1 ⟨⟨_, hg1⟩, rfl⟩
      obtain ⟨hc1, hf1⟩ := hg1.cells
      have hz1 := hg1.size
      (try simp at hz1); (try have hl1_0_0 : w.heap.size < w1.heap.size := by omega); (try have hm1_0_0 : w.heap.size ≤ w1.heap.size := by omega); (try have hl1_0_1 : w.heap.size + 1 < w1.heap.size := by omega); (try have hl1_0_2 : w.heap.size + 2 < w1.heap.size := by omega)
      obtain ⟨hb1L, hb1g⟩ := hlt g rfl
      have hown1 := own_gr hg1 hown3
      have hb1 := hb3.gr hg1
      have hRb1 := hRb3.gr hg1
      have hgw1 := hgw3.trans hg1
      have hgx1 := hown1.lt g rfl
      have hcell : ∀ j, j < 8 → ∀ u, evs[i].cells[j]? = some u → w1.cell? ⟨g, i * 8 + j, none⟩ = some u := fun j hj u hu => by
        rw [hown1.cellAt (i * 8 + j) (by omega), eflat_at evs i hlt' j hj]
        exact hu
      have HS : Hid (∀ (j : Nat) (u : Value) (e' : Ev), j < 8 → e'.reel.size ≤ 100 → e'.cells = evs[i].cells.set j u → ∃ evs' : List Ev, evs'.length = evs.length ∧ Gr w (w1.setCell ⟨g, i * 8 + j, none⟩ u) ∧ Cel (w1.setCell ⟨g, i * 8 + j, none⟩ u) L [.string title, .int .i64 lb, .bool ld, .slice (some ⟨g, 0, none⟩) evs.length c] ∧ Cel (w1.setCell ⟨g, i * 8 + j, none⟩ u) w.heap.size [.string rt, .int .i64 rb, .bool rd, rv] ∧ (w1.setCell ⟨g, i * 8 + j, none⟩ u).ownsRow base 30 8 (.slice (some ⟨g, 0, none⟩) evs.length c) evs'.length (eflat evs') ∧ (∀ e ∈ evs', e.reel.size ≤ 100)) := Lib.hid fun j u e' hj hr hc => by
        obtain ⟨r1, r2⟩ := row_set hown1 i hlt' j hj u e' hc
        rw [List.length_set] at r1
        refine ⟨evs.set i e', List.length_set, hgw1.setCell (by simp only; omega) u, hb1.other (by simp only; omega) u, hRb1.other (by simp only; omega) u, by rw [List.length_set]; exact r1, fun e he => ?_⟩
        rcases List.mem_or_eq_of_mem_set he with h | h
        · exact (hev e h).1
        · rw [h]; exact hr
      have hev0 := hev _ (List.getElem_mem hlt')
      have fz := hown1.frozenAt
      have d1 := Int.tmod_lt_of_pos by_ (show (0 : Int) < 5 by omega)
      have d2 := Int.lt_tmod_of_pos by_ (show (0 : Int) < 5 by omega)
      obtain ⟨d0, hd0⟩ : ∃ d0, by_.tmod 5 = d0 := ⟨_, rfl⟩
      rw [hd0] at d1 d2
      have m1 := Int.tmod_lt_of_pos (which.tdiv 7) (show (0 : Int) < 6 by omega)
      have m2 := Int.lt_tmod_of_pos (which.tdiv 7) (show (0 : Int) < 6 by omega)
      obtain ⟨m0, hm0⟩ : ∃ m0, (which.tdiv 7).tmod 6 = m0 := ⟨_, rfl⟩
      rw [hm0] at m1 m2
      have m3 := Int.tmod_lt_of_pos (m0 + 6) (show (0 : Int) < 6 by omega)
      have m4 := Int.tmod_nonneg 6 (show 0 ≤ m0 + 6 by omega)
      obtain ⟨m, hm⟩ : ∃ m, (m0 + 6).tmod 6 = m := ⟨_, rfl⟩
      rw [hm] at m3 m4
      generalize evs[i] = e0 at hcell HS hev0
      have k1 := hcell 1 (by omega) _ rfl
      have k2 := hcell 2 (by omega) _ rfl
      have k3 := hcell 3 (by omega) _ rfl
      have k5 := hcell 5 (by omega) _ rfl
      have k6 := hcell 6 (by omega) _ rfl
      have k7 := hcell 7 (by omega) _ rfl
      have f1 := fz (i * 8 + 1)
      have f2 := fz (i * 8 + 2)
      have f3 := fz (i * 8 + 3)
      have f5 := fz (i * 8 + 5)
      have f6 := fz (i * 8 + 6)
      have f7 := fz (i * 8 + 7)
      clear hown1 hown3 hb1 hb3 hRb1 hRb3 hcell fz hi hev hv hbase
      go_upto_region 8 with fail
      rcases (show m = 0 ∨ m = 1 ∨ m = 2 ∨ m = 3 ∨ m = 4 ∨ m = 5 by omega) with rfl | rfl | rfl | rfl | rfl | rfl
      · as_aux_lemma =>
          go_wp2
          go_meet
          exact HS.out 6 (.int .i64 (e0.f + (d0 - 2))) ⟨e0.k, e0.p, e0.fr, e0.reel, e0.i, e0.o, e0.f + (d0 - 2), e0.t⟩ (by omega) (hev0.1) rfl
      · as_aux_lemma =>
          go_wp2
          go_meet
          exact HS.out 7 (.int .i64 (e0.t + (d0 - 2))) ⟨e0.k, e0.p, e0.fr, e0.reel, e0.i, e0.o, e0.f, e0.t + (d0 - 2)⟩ (by omega) (hev0.1) rfl
      · as_aux_lemma =>
          go_wp2
          go_meet
          exact HS.out 5 (.int .i64 (e0.o + (d0 - 2))) ⟨e0.k, e0.p, e0.fr, e0.reel, e0.i, e0.o + (d0 - 2), e0.f, e0.t⟩ (by omega) (hev0.1) rfl
      · as_aux_lemma =>
          go_wp2
          go_meet
          exact HS.out 2 (.int .i64 (e0.fr + 5 * (d0 - 2))) ⟨e0.k, e0.p, e0.fr + 5 * (d0 - 2), e0.reel, e0.i, e0.o, e0.f, e0.t⟩ (by omega) (hev0.1) rfl
      · as_aux_lemma =>
          go_wp2
          go_meet
          exact HS.out 1 (.int .i64 (e0.p + (d0 - 2))) ⟨e0.k, e0.p + (d0 - 2), e0.fr, e0.reel, e0.i, e0.o, e0.f, e0.t⟩ (by omega) (hev0.1) rfl
      · as_aux_lemma =>
          go_wp2
          go_meet
          exact HS.out 3 (.string ⟨#[66, 97, 100]⟩) ⟨e0.k, e0.p, e0.fr, ⟨#[66, 97, 100]⟩, e0.i, e0.o, e0.f, e0.t⟩ (by omega) (by show (3 : Nat) ≤ 100; omega) rfl
    · have qz : decide (0 < (evs.length : Int)) = false := decide_eq_false (by omega)
      go_wp2
      go_meet
      exact ⟨evs, rfl, hgw3, hb3, hRb3, hown3, fun e he => (hev e he).1⟩
  case rest => as_aux_lemma =>
    obtain ⟨evs', hlen, hgx, hbx, hRx, hox, hrx⟩ := hcut
    obtain ⟨R2, hR2⟩ : ∃ R2, vEl ⟨title, lb, ld, evs'⟩ = R2 := ⟨_, rfl⟩
    have HC : Hid (∀ w', Gr wc w' → (Calls Tryz.prog 13 #[.agg #[.string title, .int .i64 lb, .bool ld, .slice p evs.length c]] w' fun e w'' => e = .returned (.bool R2) ∧ Gr w' w'') ∧ (Calls Tryz.prog 14 #[.agg #[.string title, .int .i64 lb, .bool ld, .slice p evs.length c]] w' fun e w'' => e = .returned (.bool R2) ∧ Gr w' w'')) := fun w' hg => by
      have hR : ElR w' (.slice p evs.length c) ⟨title, lb, ld, evs'⟩ := ⟨(Rd.own hox).gr hg, by simp only; omega, fun e he => by have := hrx e he; omega, by simp only; omega⟩
      have e1 := HE.out ⟨title, lb, ld, evs'⟩ _ w' hR
      have e2 := HR.out ⟨title, lb, ld, evs'⟩ _ w' hR
      rw [hR2] at e1 e2
      exact ⟨e1, e2⟩
    clear hR2
    have HRC : Hid (∀ w', Gr wc w' → (Calls Tryz.prog 13 #[.agg #[.string rt, .int .i64 rb, .bool rd, rv]] w' fun e w'' => e = .returned (.bool Rw) ∧ Gr w' w'') ∧ (Calls Tryz.prog 14 #[.agg #[.string rt, .int .i64 rb, .bool rd, rv]] w' fun e w'' => e = .returned (.bool Rw) ∧ Gr w' w'')) := fun w' hg => HRA.out w' (hgx.trans hg)
    clear HRA
    have y0 := hbx.lt
    have y1 := (hbx.2 0 _ rfl).1
    have y2 := (hbx.2 1 _ rfl).1
    have y3 := (hbx.2 2 _ rfl).1
    have y4 := (hbx.2 3 _ rfl).1
    have v0 := hRx.lt
    have v1 := (hRx.2 0 _ rfl).1
    have v2 := (hRx.2 1 _ rfl).1
    have v3 := (hRx.2 2 _ rfl).1
    have v4 := (hRx.2 3 _ rfl).1
    go_upto_region 21 with fail
    refine wp_region_gr (by kernel_rfl) (by kernel_rfl) (fun hq1 hq2 => ?_)
    repeat (first | go_big_quiet_skip | (go_big_quiet_want; go_big_quiet_op; first | go_big_quiet_on | (apply Exists.intro; refine ⟨fun _ => ?_, ?_⟩; (· (first | (go_at_call 15; exact gr_call (HW.out _ (hgx.trans (GW.h _)))) | (go_at_call 13; with_reducible exact gr_call (HC.out _ (GW.h _)).1) | (go_at_call 14; with_reducible exact gr_call (HC.out _ (GW.h _)).2) | (go_at_call 13; with_reducible exact gr_call (HRC.out _ (GW.h _)).1) | (go_at_call 14; with_reducible exact gr_call (HRC.out _ (GW.h _)).2))); go_big_quiet_on)))
    refine wpQuiet_nil ?_
    clear hq1 hq2
    rintro w1 ⟨⟨_, hg1⟩, rfl⟩
    obtain ⟨hc1, hf1⟩ := hg1.cells
    have hz1 := hg1.size
    (try simp at hz1); (try have hl1_0_0 : w.heap.size < w1.heap.size := by omega); (try have hm1_0_0 : w.heap.size ≤ w1.heap.size := by omega); (try have hl1_0_1 : w.heap.size + 1 < w1.heap.size := by omega); (try have hl1_0_2 : w.heap.size + 2 < w1.heap.size := by omega)
    go_wp2
    go_ret
    exact ⟨rfl, (by repeat (first | with_reducible exact Gr.refl _ | with_reducible assumption | refine Gr.setCell ?_ (by first | omega | (simp; done) | (simp; omega)) _ | refine Gr.alloc ?_ _ | refine Gr.drew ?_ | refine Gr.drewN ?_ _ | refine Gr.trans ?_ (by with_reducible assumption)))⟩
end Go.Proofs.YtgbiodnfpbhjiaaGreatDoor

/-
  Walk of the law EdlValid.
  Conditions: the list given and the numbers lie in memory; the table of powers is laid.
-/
namespace Go.Proofs.YtgbiodnfpbhjiaaGreatDoor
open Go.RowKit Go.Lib
set_option linter.unusedVariables false

theorem vEvs_each {day : Int} : ∀ {es : List Ev} {n : Int}, vEvs day n es = true → 0 ≤ n → ∀ e ∈ es, ∃ m, 0 ≤ m ∧ VE e m day
  | x :: es, n, h, h0, e, he => by
    obtain ⟨h1, h2⟩ := vEvs_cons.1 h
    rcases List.mem_cons.1 he with rfl | he
    · exact ⟨n, h0, h1⟩
    · exact vEvs_each h2 (by have := h1.l; have := h1.ft; omega) e he
theorem lawValid_walk (raw : El) (rv : Value) (a : Option Addr) (cap : Nat) (xs : List Int) (which by_ : Int) (w : World) (hraw : ElR w rv raw) (hA : TapeArg w a cap xs) (hwh : -9223372036854775808 ≤ which ∧ which ≤ 9223372036854775807) (hby : -9223372036854775808 ≤ by_ ∧ by_ ≤ 9223372036854775807) (hT : Pow w) :
    Calls Tryz.prog 3 #[raw.val rv, .slice a xs.length cap, .int .i64 which, .int .i64 by_] w fun e w' => e = .returned (.bool true) ∧ Gr w w' := by
  refine lawValid_core a cap xs raw rv which by_ w hraw hwh hby (Lib.hid fun w0 hg => ?_) (Lib.hid fun w' hg => eawake_any w' (Pow.gr hg hT))
  refine (emade_any a cap xs w0 (hA.gr hg)).mono ?_
  rintro e w' ⟨l, v, base, rfl, hg2, hR, hown, hb, hM⟩
  refine ⟨l, v, base, rfl, hg2, hown, hb, hM.n, emade_ok hM, ?_, fun e he => ?_⟩
  · have h5 : ∀ s ∈ titlesL, s.size ≤ 100 := by decide +kernel
    exact h5 _ hM.t
  · obtain ⟨m, hm0, hm⟩ := vEvs_each hM.v (Int.le_refl 0) e he
    have ho := hM.o e he
    have hl := hm.l
    have hf := hm.ft
    have hd := hm.d
    have hfr := hm.fr
    have hbn := hm.bounds hm0
    have hk := hm.kd
    refine ⟨?_, by omega, by omega, by omega, by omega, by omega, by omega, by omega, ?_, ?_, ?_⟩
    · rcases ho.2 with h | h
      · omega
      · have h5 : ∀ s ∈ reelsL, s.size ≤ 100 := by decide +kernel
        exact h5 _ h
    all_goals omega
end Go.Proofs.YtgbiodnfpbhjiaaGreatDoor
