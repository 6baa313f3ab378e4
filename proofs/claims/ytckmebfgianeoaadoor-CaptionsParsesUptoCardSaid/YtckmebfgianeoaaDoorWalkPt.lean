/-
  Contract of parseTime of package captions.
  Conditions: the rate is suitable.
-/
import Derived.Test.YtckmebfgianeoaaDoorWalkKt
namespace Go.Proofs.YtckmebfgianeoaaDoor
open Go.RowKit Go.Lib
set_option linter.unusedSimpArgs false
set_option linter.unusedVariables false

theorem dgF_bound : ∀ (l : List UInt8) (x : Int), l.all isDg = true → 0 ≤ x → 0 ≤ l.foldl dgF x ∧ l.foldl dgF x + 1 ≤ (x + 1) * 10 ^ l.length
  | [], x, _, h => by simp; exact h
  | b :: l, x, ha, h => by
    rw [List.all_cons, Bool.and_eq_true] at ha
    have hb : 48 ≤ b.toNat ∧ b.toNat ≤ 57 := by have := ha.1; unfold isDg at this; simp only [Bool.and_eq_true, decide_eq_true_eq] at this; exact this
    have ih := dgF_bound l (dgF x b) ha.2 (by unfold dgF; omega)
    rw [List.foldl_cons, List.length_cons, Int.pow_succ]
    refine ⟨ih.1, Int.le_trans ih.2 ?_⟩
    have h1 : dgF x b + 1 ≤ (x + 1) * 10 := by unfold dgF; omega
    have h2 := Int.mul_le_mul_of_nonneg_right h1 (show (0 : Int) ≤ 10 ^ l.length from Int.pow_nonneg (by omega))
    have h3 : (x + 1) * 10 * 10 ^ l.length = (x + 1) * (10 ^ l.length * 10) := by rw [Int.mul_assoc, Int.mul_comm 10]
    omega
theorem dgV_bound {l : List UInt8} {n : Int} (h : dgV l = some n) : 0 ≤ n ∧ (l.length = 2 → n ≤ 99) ∧ (l.length = 3 → n ≤ 999) := by
  unfold dgV at h
  split at h
  · rename_i ha
    injection h with h
    have := dgF_bound l 0 ha (by omega)
    rw [h] at this
    refine ⟨this.1, fun hl => ?_, fun hl => ?_⟩
    · have h2 := this.2; rw [hl] at h2; omega
    · have h2 := this.2; rw [hl] at h2; omega
  · cases h
theorem posN_any (ms num den : Int) (w : World) (h0 : 0 ≤ ms) (h1 : ms ≤ 400000000) (hs : suB num den = true) :
    Calls Tryd.prog 74 #[.int .i64 ms, .agg #[.int .i64 1000, .int .i64 1], .agg #[.int .i64 num, .int .i64 den]] w fun e w' => e = .returned (.tuple #[.int .i64 (posN ms num den), .int .i64 0]) ∧ Gr w w' := by
  obtain ⟨hv, n1, n2, d1, d2, _⟩ := suB_out hs
  have ht : scB num den = true := by
    unfold scB
    rw [hv, Bool.true_and]
    exact decide_eq_true (by omega)
  have hf : scB 1000 1 = true := by decide +kernel
  have := position_yes ms 1000 1 num den w ⟨by omega, by omega⟩ hf ht
  have hm : 0 ≤ ms * num := Int.mul_nonneg h0 (by omega)
  have hm2 : ms * num ≤ 400000000 * 1048576 := Int.mul_le_mul h1 n2 (by omega) (by omega)
  have e : (2 * (ms * (num * 1)) + den * 1000) / (2 * (den * 1000)) = posN ms num den := by
    unfold posN
    rw [Int.mul_one, Int.mul_comm den 1000]
  have hq0 : 0 ≤ posN ms num den := by unfold posN; exact Int.ediv_nonneg (by omega) (by omega)
  have hq1 : posN ms num den ≤ 2 * (ms * num) + 1000 * den := by unfold posN; exact Int.ediv_le_self _ (by omega)
  have hp : psP ms (num * 1) (den * 1000) = true := by
    unfold psP
    rw [e]
    exact decide_eq_true ⟨by omega, by omega⟩
  unfold psQ psE at this
  rw [hp, if_pos rfl, if_pos rfl, e] at this
  exact this

set_option maxRecDepth 20000 in
set_option maxHeartbeats 4000000 in
theorem parseTime_any (s : ByteArray) (num den : Int) (w : World) (hs : suB num den = true) (hz : s.size ≤ 140737488355328) :
    Calls Tryd.prog 82 #[.string s, .agg #[.int .i64 num, .int .i64 den]] w fun e w' => e = .returned (.tuple #[.int .i64 ((ptP num den s.data.toList).getD 0), .bool (ptP num den s.data.toList).isSome]) ∧ Gr w w' := by
  by_cases c : s.size = 12
  · have q1 : ((s.size : Int) != 12) = false := by simp [c]
    obtain ⟨R, hR⟩ : ∃ R, ptP num den s.data.toList = R := ⟨_, rfl⟩
    rw [hR]
    unfold ptP at hR
    rw [if_pos (by rw [ba_len]; exact c)] at hR
    have x1 : (s.extract 0 2).data.toList = s.data.toList.take 2 := by rw [ba_ex]; rfl
    have x2 : (s.extract 3 5).data.toList = (s.data.toList.drop 3).take 2 := ba_ex _ _ _
    have x3 : (s.extract 6 8).data.toList = (s.data.toList.drop 6).take 2 := ba_ex _ _ _
    have x4 : (s.extract 9 12).data.toList = (s.data.toList.drop 9).take 3 := ba_ex _ _ _
    rw [← x1, ← x2, ← x3, ← x4] at hR
    have z1 : (s.extract 0 2).data.toList.length = 2 := by rw [x1, List.length_take, ba_len]; omega
    have z2 : (s.extract 3 5).data.toList.length = 2 := by rw [x2, List.length_take, List.length_drop, ba_len]; omega
    have z3 : (s.extract 6 8).data.toList.length = 2 := by rw [x3, List.length_take, List.length_drop, ba_len]; omega
    have z4 : (s.extract 9 12).data.toList.length = 3 := by rw [x4, List.length_take, List.length_drop, ba_len]; omega
    have D1 : Hid (∀ w', Calls Tryd.prog 101 #[.string (s.extract 0 2)] w' fun e w'' => e = .returned (.tuple #[.int .i64 ((dgV (s.extract 0 2).data.toList).getD 0), .bool (dgV (s.extract 0 2).data.toList).isSome]) ∧ Gr w' w'') := fun w' => cdigits_any _ w' (by rw [← ba_len]; omega)
    have D2 : Hid (∀ w', Calls Tryd.prog 101 #[.string (s.extract 3 5)] w' fun e w'' => e = .returned (.tuple #[.int .i64 ((dgV (s.extract 3 5).data.toList).getD 0), .bool (dgV (s.extract 3 5).data.toList).isSome]) ∧ Gr w' w'') := fun w' => cdigits_any _ w' (by rw [← ba_len]; omega)
    have D3 : Hid (∀ w', Calls Tryd.prog 101 #[.string (s.extract 6 8)] w' fun e w'' => e = .returned (.tuple #[.int .i64 ((dgV (s.extract 6 8).data.toList).getD 0), .bool (dgV (s.extract 6 8).data.toList).isSome]) ∧ Gr w' w'') := fun w' => cdigits_any _ w' (by rw [← ba_len]; omega)
    have D4 : Hid (∀ w', Calls Tryd.prog 101 #[.string (s.extract 9 12)] w' fun e w'' => e = .returned (.tuple #[.int .i64 ((dgV (s.extract 9 12).data.toList).getD 0), .bool (dgV (s.extract 9 12).data.toList).isSome]) ∧ Gr w' w'') := fun w' => cdigits_any _ w' (by rw [← ba_len]; omega)
    have b1 := fun n => dgV_bound (l := (s.extract 0 2).data.toList) (n := n)
    have b2 := fun n => dgV_bound (l := (s.extract 3 5).data.toList) (n := n)
    have b3 := fun n => dgV_bound (l := (s.extract 6 8).data.toList) (n := n)
    have b4 := fun n => dgV_bound (l := (s.extract 9 12).data.toList) (n := n)
    rw [z1] at b1
    rw [z2] at b2
    rw [z3] at b3
    rw [z4] at b4
    generalize dgV (s.extract 0 2).data.toList = O1 at hR D1 b1
    generalize dgV (s.extract 3 5).data.toList = O2 at hR D2 b2
    generalize dgV (s.extract 6 8).data.toList = O3 at hR D3 b3
    generalize dgV (s.extract 9 12).data.toList = O4 at hR D4 b4
    clear z1 z2 z3 z4 x1 x2 x3 x4
    have HPS := Lib.hid perSecond_any
    have hnew := Cel.new w #[.int .i64 num, .int .i64 den] 47
    have hR := Lib.hid hR
    have b1 := Lib.hid b1
    have b2 := Lib.hid b2
    have b3 := Lib.hid b3
    have b4 := Lib.hid b4
    have hs := Lib.hid hs
    obtain ⟨v1, k1, hv1, hk1⟩ : ∃ v k, O1.getD 0 = v ∧ O1.isSome = k := ⟨_, _, rfl, rfl⟩
    obtain ⟨v2, k2, hv2, hk2⟩ : ∃ v k, O2.getD 0 = v ∧ O2.isSome = k := ⟨_, _, rfl, rfl⟩
    obtain ⟨v3, k3, hv3, hk3⟩ : ∃ v k, O3.getD 0 = v ∧ O3.isSome = k := ⟨_, _, rfl, rfl⟩
    obtain ⟨v4, k4, hv4, hk4⟩ : ∃ v k, O4.getD 0 = v ∧ O4.isSome = k := ⟨_, _, rfl, rfl⟩
    rw [hv1, hk1] at D1
    rw [hv2, hk2] at D2
    rw [hv3, hk3] at D3
    rw [hv4, hk4] at D4
    have hbad : k1 = false ∨ k2 = false ∨ k3 = false ∨ k4 = false → R = none := fun h => by
      rw [← hR.out]
      cases O1 with
      | none => rfl
      | some a => cases O2 with
        | none => rfl
        | some b => cases O3 with
          | none => rfl
          | some c => cases O4 with
            | none => rfl
            | some d => simp at hk1 hk2 hk3 hk4; subst hk1 hk2 hk3 hk4; simp at h
    have hgood : k1 = true → k2 = true → k3 = true → k4 = true → R = some (posN (((v1 * 60 + v2) * 60 + v3) * 1000 + v4) num den) ∧ 0 ≤ v1 ∧ v1 ≤ 99 ∧ 0 ≤ v2 ∧ v2 ≤ 99 ∧ 0 ≤ v3 ∧ v3 ≤ 99 ∧ 0 ≤ v4 ∧ v4 ≤ 999 := fun h1 h2 h3 h4 => by
      rw [← hR.out]
      cases O1 with
      | none => simp at hk1; subst hk1; cases h1
      | some a => cases O2 with
        | none => simp at hk2; subst hk2; cases h2
        | some b => cases O3 with
          | none => simp at hk3; subst hk3; cases h3
          | some c => cases O4 with
            | none => simp at hk4; subst hk4; cases h4
            | some d =>
              have y1 := b1.out a rfl
              have y2 := b2.out b rfl
              have y3 := b3.out c rfl
              have y4 := b4.out d rfl
              simp at hv1 hv2 hv3 hv4
              subst hv1 hv2 hv3 hv4
              exact ⟨rfl, y1.1, y1.2.1 rfl, y2.1, y2.2.1 rfl, y3.1, y3.2.1 rfl, y4.1, y4.2.2 rfl⟩
    clear hR hv1 hk1 hv2 hk2 hv3 hk3 hv4 hk4 b1 b2 b3 b4
    by_cases hk : k1 = false ∨ k2 = false ∨ k3 = false ∨ k4 = false
    · obtain rfl := hbad hk
      clear hbad hgood
      rcases hk with rfl | hk
      · go_enter Tryd.func82, Tryd.ntmps82
        go_wp2_with (first
          | (go_at_call 101; (with_reducible refine (D1.out _).mono ?_); rintro e w1 ⟨rfl, hg1⟩)
          | (go_at_call 101; (with_reducible refine (D2.out _).mono ?_); rintro e w2 ⟨rfl, hg2⟩)
          | (go_at_call 101; (with_reducible refine (D3.out _).mono ?_); rintro e w3 ⟨rfl, hg3⟩)
          | (go_at_call 101; (with_reducible refine (D4.out _).mono ?_); rintro e w4 ⟨rfl, hg4⟩))
        go_ret2
        exact ⟨rfl, (by repeat (first | with_reducible exact Gr.refl _ | with_reducible assumption | refine Gr.setCell ?_ (by first | omega | (simp; done) | (simp; omega)) _ | refine Gr.alloc ?_ _ | refine Gr.drew ?_ | refine Gr.drewN ?_ _ | refine Gr.trans ?_ (by with_reducible assumption)))⟩
      · cases k1 with
        | false =>
          go_enter Tryd.func82, Tryd.ntmps82
          go_wp2_with (first
            | (go_at_call 101; (with_reducible refine (D1.out _).mono ?_); rintro e w1 ⟨rfl, hg1⟩)
            | (go_at_call 101; (with_reducible refine (D2.out _).mono ?_); rintro e w2 ⟨rfl, hg2⟩)
            | (go_at_call 101; (with_reducible refine (D3.out _).mono ?_); rintro e w3 ⟨rfl, hg3⟩)
            | (go_at_call 101; (with_reducible refine (D4.out _).mono ?_); rintro e w4 ⟨rfl, hg4⟩))
          go_ret2
          exact ⟨rfl, (by repeat (first | with_reducible exact Gr.refl _ | with_reducible assumption | refine Gr.setCell ?_ (by first | omega | (simp; done) | (simp; omega)) _ | refine Gr.alloc ?_ _ | refine Gr.drew ?_ | refine Gr.drewN ?_ _ | refine Gr.trans ?_ (by with_reducible assumption)))⟩
        | true =>
          rcases hk with rfl | hk
          · go_enter Tryd.func82, Tryd.ntmps82
            go_wp2_with (first
              | (go_at_call 101; (with_reducible refine (D1.out _).mono ?_); rintro e w1 ⟨rfl, hg1⟩)
              | (go_at_call 101; (with_reducible refine (D2.out _).mono ?_); rintro e w2 ⟨rfl, hg2⟩)
              | (go_at_call 101; (with_reducible refine (D3.out _).mono ?_); rintro e w3 ⟨rfl, hg3⟩)
              | (go_at_call 101; (with_reducible refine (D4.out _).mono ?_); rintro e w4 ⟨rfl, hg4⟩))
            go_ret2
            exact ⟨rfl, (by repeat (first | with_reducible exact Gr.refl _ | with_reducible assumption | refine Gr.setCell ?_ (by first | omega | (simp; done) | (simp; omega)) _ | refine Gr.alloc ?_ _ | refine Gr.drew ?_ | refine Gr.drewN ?_ _ | refine Gr.trans ?_ (by with_reducible assumption)))⟩
          · cases k2 with
            | false =>
              go_enter Tryd.func82, Tryd.ntmps82
              go_wp2_with (first
                | (go_at_call 101; (with_reducible refine (D1.out _).mono ?_); rintro e w1 ⟨rfl, hg1⟩)
                | (go_at_call 101; (with_reducible refine (D2.out _).mono ?_); rintro e w2 ⟨rfl, hg2⟩)
                | (go_at_call 101; (with_reducible refine (D3.out _).mono ?_); rintro e w3 ⟨rfl, hg3⟩)
                | (go_at_call 101; (with_reducible refine (D4.out _).mono ?_); rintro e w4 ⟨rfl, hg4⟩))
              go_ret2
              exact ⟨rfl, (by repeat (first | with_reducible exact Gr.refl _ | with_reducible assumption | refine Gr.setCell ?_ (by first | omega | (simp; done) | (simp; omega)) _ | refine Gr.alloc ?_ _ | refine Gr.drew ?_ | refine Gr.drewN ?_ _ | refine Gr.trans ?_ (by with_reducible assumption)))⟩
            | true =>
              rcases hk with rfl | rfl
              · go_enter Tryd.func82, Tryd.ntmps82
                go_wp2_with (first
                  | (go_at_call 101; (with_reducible refine (D1.out _).mono ?_); rintro e w1 ⟨rfl, hg1⟩)
                  | (go_at_call 101; (with_reducible refine (D2.out _).mono ?_); rintro e w2 ⟨rfl, hg2⟩)
                  | (go_at_call 101; (with_reducible refine (D3.out _).mono ?_); rintro e w3 ⟨rfl, hg3⟩)
                  | (go_at_call 101; (with_reducible refine (D4.out _).mono ?_); rintro e w4 ⟨rfl, hg4⟩))
                go_ret2
                exact ⟨rfl, (by repeat (first | with_reducible exact Gr.refl _ | with_reducible assumption | refine Gr.setCell ?_ (by first | omega | (simp; done) | (simp; omega)) _ | refine Gr.alloc ?_ _ | refine Gr.drew ?_ | refine Gr.drewN ?_ _ | refine Gr.trans ?_ (by with_reducible assumption)))⟩
              · cases k3 with
                | false =>
                  go_enter Tryd.func82, Tryd.ntmps82
                  go_wp2_with (first
                    | (go_at_call 101; (with_reducible refine (D1.out _).mono ?_); rintro e w1 ⟨rfl, hg1⟩)
                    | (go_at_call 101; (with_reducible refine (D2.out _).mono ?_); rintro e w2 ⟨rfl, hg2⟩)
                    | (go_at_call 101; (with_reducible refine (D3.out _).mono ?_); rintro e w3 ⟨rfl, hg3⟩)
                    | (go_at_call 101; (with_reducible refine (D4.out _).mono ?_); rintro e w4 ⟨rfl, hg4⟩))
                  go_ret2
                  exact ⟨rfl, (by repeat (first | with_reducible exact Gr.refl _ | with_reducible assumption | refine Gr.setCell ?_ (by first | omega | (simp; done) | (simp; omega)) _ | refine Gr.alloc ?_ _ | refine Gr.drew ?_ | refine Gr.drewN ?_ _ | refine Gr.trans ?_ (by with_reducible assumption)))⟩
                | true =>
                  go_enter Tryd.func82, Tryd.ntmps82
                  go_wp2_with (first
                    | (go_at_call 101; (with_reducible refine (D1.out _).mono ?_); rintro e w1 ⟨rfl, hg1⟩)
                    | (go_at_call 101; (with_reducible refine (D2.out _).mono ?_); rintro e w2 ⟨rfl, hg2⟩)
                    | (go_at_call 101; (with_reducible refine (D3.out _).mono ?_); rintro e w3 ⟨rfl, hg3⟩)
                    | (go_at_call 101; (with_reducible refine (D4.out _).mono ?_); rintro e w4 ⟨rfl, hg4⟩))
                  go_ret2
                  exact ⟨rfl, (by repeat (first | with_reducible exact Gr.refl _ | with_reducible assumption | refine Gr.setCell ?_ (by first | omega | (simp; done) | (simp; omega)) _ | refine Gr.alloc ?_ _ | refine Gr.drew ?_ | refine Gr.drewN ?_ _ | refine Gr.trans ?_ (by with_reducible assumption)))⟩
    · have t1 : k1 = true := by cases k1 with
        | true => rfl
        | false => exact absurd (.inl rfl) hk
      have t2 : k2 = true := by cases k2 with
        | true => rfl
        | false => exact absurd (.inr (.inl rfl)) hk
      have t3 : k3 = true := by cases k3 with
        | true => rfl
        | false => exact absurd (.inr (.inr (.inl rfl))) hk
      have t4 : k4 = true := by cases k4 with
        | true => rfl
        | false => exact absurd (.inr (.inr (.inr rfl))) hk
      obtain ⟨rfl, b1, b2, b3, b4, b5, b6, b7, b8⟩ := hgood t1 t2 t3 t4
      subst t1 t2 t3 t4
      clear hbad hgood hk
      have HP : Hid (∀ w', Calls Tryd.prog 74 #[.int .i64 (((v1 * 60 + v2) * 60 + v3) * 1000 + v4), .agg #[.int .i64 1000, .int .i64 1], .agg #[.int .i64 num, .int .i64 den]] w' fun e w'' => e = .returned (.tuple #[.int .i64 (posN (((v1 * 60 + v2) * 60 + v3) * 1000 + v4) num den), .int .i64 0]) ∧ Gr w' w'') := fun w' => posN_any _ num den w' (by omega) (by omega) hs.out
      generalize posN (((v1 * 60 + v2) * 60 + v3) * 1000 + v4) num den = P at HP ⊢
      go_enter Tryd.func82, Tryd.ntmps82
      go_wp2_with (first
        | (go_at_call 101; (with_reducible refine (D1.out _).mono ?_); rintro e w1 ⟨rfl, hg1⟩)
        | (go_at_call 101; (with_reducible refine (D2.out _).mono ?_); rintro e w2 ⟨rfl, hg2⟩)
        | (go_at_call 101; (with_reducible refine (D3.out _).mono ?_); rintro e w3 ⟨rfl, hg3⟩)
        | (go_at_call 101; (with_reducible refine (D4.out _).mono ?_); rintro e w4 ⟨rfl, hg4⟩))
      have hg04 : Gr (w.alloc (.cells #[.int .i64 num, .int .i64 den] 47)) w4 := ((hg1.trans hg2).trans hg3).trans hg4
      obtain ⟨x0, a0, a1, _, _⟩ := (hnew.gr hg04).two
      have hgw4 : Gr w w4 := ((Gr.refl w).alloc _).trans hg04
      refine wp_region_gr (by kernel_rfl) (by kernel_rfl) (fun hq1 hq2 => ?_)
      repeat (first | go_big_quiet_skip | (go_big_quiet_want; go_big_quiet_op; first | go_big_quiet_on | (apply Exists.intro; refine ⟨fun _ => ?_, ?_⟩; (· (first | (go_at_call 75; exact gr_call (HPS.out _)) | (go_at_call 74; exact gr_call (HP.out _)))); go_big_quiet_on)))
      refine wpQuiet_nil ?_
      clear hq1 hq2
      rintro w5 ⟨⟨_, hg5⟩, rfl⟩
      obtain ⟨hc5, hf5⟩ := hg5.cells
      have hz5 := hg5.size
      (try simp at hz5); (try have hl5_0_0 : w.heap.size < w5.heap.size := by omega); (try have hm5_0_0 : w.heap.size ≤ w5.heap.size := by omega); (try have hl5_0_1 : w.heap.size + 1 < w5.heap.size := by omega); (try have hl5_0_2 : w.heap.size + 2 < w5.heap.size := by omega); (try have hl5_1_0 : w1.heap.size < w5.heap.size := by omega); (try have hm5_1_0 : w1.heap.size ≤ w5.heap.size := by omega); (try have hl5_1_1 : w1.heap.size + 1 < w5.heap.size := by omega); (try have hl5_1_2 : w1.heap.size + 2 < w5.heap.size := by omega); (try have hl5_2_0 : w2.heap.size < w5.heap.size := by omega); (try have hm5_2_0 : w2.heap.size ≤ w5.heap.size := by omega); (try have hl5_2_1 : w2.heap.size + 1 < w5.heap.size := by omega); (try have hl5_2_2 : w2.heap.size + 2 < w5.heap.size := by omega); (try have hl5_3_0 : w3.heap.size < w5.heap.size := by omega); (try have hm5_3_0 : w3.heap.size ≤ w5.heap.size := by omega); (try have hl5_3_1 : w3.heap.size + 1 < w5.heap.size := by omega); (try have hl5_3_2 : w3.heap.size + 2 < w5.heap.size := by omega); (try have hl5_4_0 : w4.heap.size < w5.heap.size := by omega); (try have hm5_4_0 : w4.heap.size ≤ w5.heap.size := by omega); (try have hl5_4_1 : w4.heap.size + 1 < w5.heap.size := by omega); (try have hl5_4_2 : w4.heap.size + 2 < w5.heap.size := by omega)
      go_wp2
      go_ret2
      exact ⟨rfl, hgw4.trans hg5⟩
  · have q1 : ((s.size : Int) != 12) = true := by simp; omega
    have hN : ptP num den s.data.toList = none := by unfold ptP; rw [if_neg (by rw [ba_len]; exact c)]
    rw [hN]
    go_enter Tryd.func82, Tryd.ntmps82
    go_wp2
    go_ret2
    exact ⟨rfl, (by repeat (first | with_reducible exact Gr.refl _ | with_reducible assumption | refine Gr.setCell ?_ (by first | omega | (simp; done) | (simp; omega)) _ | refine Gr.alloc ?_ _ | refine Gr.drew ?_ | refine Gr.drewN ?_ _ | refine Gr.trans ?_ (by with_reducible assumption)))⟩
end Go.Proofs.YtckmebfgianeoaaDoor
