/-
  Walk of the law CaptionsWrapKeeps.
  Conditions: the line has at most 1,400,000 bytes.
-/
import Derived.Test.YtckmebfgianeoaaDoorLawWraps
import Derived.Test.YtckmebfgianeoaaDoorWalkBe
import Derived.Test.YtckmebfgianeoaaDoorMathR
import Derived.Outline
namespace Go.Proofs.YtckmebfgianeoaaDoor
open Go.RowKit Go.Lib
set_option linter.unusedSimpArgs false
set_option linter.unusedVariables false

theorem allB_snoc (l : List ByteArray) (b : ByteArray) : allB (l ++ [b]) = allB l ++ b.data.toList := by rw [allB_append]; simp [allB]

set_option maxRecDepth 20000 in
set_option maxHeartbeats 4000000 in
theorem lawKeep_walk (s : ByteArray) (n : Int) (w : World) (hs : s.size ≤ 1400000) (hn : 0 ≤ n ∧ n ≤ 255) (hT : Pow w) :
    Calls Tryd.prog 5 #[.string s, .int .u8 n] w fun e w' => e = .returned (.bool true) ∧ Gr w w' := by
  have HW : Hid (∀ w', Gr w w' → Calls Tryd.prog 17 #[] w' fun e w'' => e = .returned (.bool true) ∧ Gr w' w'') := fun w' hg => awake_any w' (Pow.gr hg hT)
  obtain ⟨x, hx⟩ : ∃ x, n.tmod 40 = x := ⟨_, rfl⟩
  have x1 : 0 ≤ x ∧ x < 40 := by rw [← hx]; exact ⟨Int.tmod_nonneg _ hn.1, Int.tmod_lt_of_pos _ (by omega)⟩
  have H1 : Hid (∀ w', Calls Tryd.prog 19 #[.string s, .int .i64 (x + 1)] w' fun e w'' => ∃ v, e = .returned v ∧ Gr w' w'' ∧ StrsR w'' v (wrapP (x + 1) s)) := fun w' => wrap_any s _ w' (by omega) (by omega)
  by_cases c0 : (s.size : Int) ≤ x + 1
  · have q1 : decide ((s.size : Int) ≤ x + 1) = true := decide_eq_true c0
    have hP : wrapP (x + 1) s = [s] := by unfold wrapP; rw [if_neg (by omega), if_pos c0]
    rw [hP] at H1
    have HS : Hid (∀ v1 v2 w', StrsR w' v1 [s] → StrsR w' v2 [s] → Calls Tryd.prog 18 #[v1, v2] w' fun e w'' => e = .returned (.bool true) ∧ Gr w' w'') := fun v1 v2 w' h1 h2 => by
      have := strings_any v1 v2 _ _ w' h1 h2 (by simp) (by simp)
      rw [decide_eq_true rfl] at this
      exact this
    go_enter Tryd.func5, Tryd.ntmps5
    go_wp2_with (first
      | (go_at_call 19; (with_reducible refine (H1.out _).mono ?_); rintro e w2 ⟨v1, rfl, hg2, hS1⟩; obtain ⟨p1, c1, rfl, hh⟩ := hS1.shape; clear hh; have hS1 := Lib.hid hS1)
      | (go_at_call 18; (with_reducible refine (HS.out _ (.slice (some ⟨w2.heap.size, 0, none⟩) 1 1) (w2.alloc (.cells #[.string s] 9)) ?_ ?_).mono ?_); (· exact hS1.out.gr ((Gr.refl w2).alloc _)); (· exact strs_new w2 [s] #[.string s] 1 1 rfl rfl); rintro e w4 ⟨rfl, hg4⟩)
      | (go_at_call 17; (with_reducible refine (HW.out _ ?_).mono ?_); (· exact (by repeat (first | with_reducible exact Gr.refl _ | with_reducible assumption | refine Gr.setCell ?_ (by first | omega | (simp; done) | (simp; omega)) _ | refine Gr.alloc ?_ _ | refine Gr.drew ?_ | refine Gr.drewN ?_ _ | refine Gr.trans ?_ (by with_reducible assumption)))); rintro e w5 ⟨rfl, hg5⟩))
    go_ret
    exact ⟨rfl, (by repeat (first | with_reducible exact Gr.refl _ | with_reducible assumption | refine Gr.setCell ?_ (by first | omega | (simp; done) | (simp; omega)) _ | refine Gr.alloc ?_ _ | refine Gr.drew ?_ | refine Gr.drewN ?_ _ | refine Gr.trans ?_ (by with_reducible assumption)))⟩
  have q1 : decide ((s.size : Int) ≤ x + 1) = false := decide_eq_false c0
  obtain ⟨L, hL⟩ : ∃ L, wrapP (x + 1) s = L := ⟨_, rfl⟩
  obtain ⟨k, hk⟩ : ∃ k : Nat, (k : Int) = x + 1 := ⟨(x + 1).toNat, by omega⟩
  have hk2 : 0 < k := by omega
  have hP : L = wrapM k s.data.toList := by
    rw [← hL]; unfold wrapP
    rw [if_neg (by omega), if_neg c0, show (x + 1).toNat = k by omega]
  have hkeep := wrapM_keeps hk2 s.data.toList
  rw [← hP] at hkeep
  have hlen : L.length ≤ 2800001 := by rw [← hL]; have := wrapP_len2 (x + 1) s; omega
  rw [hL] at H1
  have hbare := Lib.hid hkeep.1
  have hok := Lib.hid hkeep.2
  clear hkeep hP hL
  go_enter Tryd.func5, Tryd.ntmps5
  go_wp2_with (first
    | (go_at_call 19; (with_reducible refine (H1.out _).mono ?_); rintro e w2 ⟨v1, rfl, hg2, hS1⟩; obtain ⟨p1, c1, rfl, hh⟩ := hS1.shape; have hh := Lib.hid hh; have hS1 := Lib.hid hS1))
  go_loopw [7, 31] (fun al i wr => ∃ kk : Nat, i = .int .i64 kk ∧ kk ≤ L.length ∧ al = .string (toBa (allB (L.take kk))) ∧ Gr w wr ∧ Gr w2 wr ∧ (toBa (allB (L.take kk))).size ≤ 40 * kk) (fun _ i _ => L.length - (RowKit.intOf i).toNat)
  case atStart => exact ⟨0, rfl, Nat.zero_le _, rfl, hg2, Gr.refl _, Nat.le_refl _⟩
  case round =>
    obtain ⟨kk, rfl, h1, rfl, hg, hgw, hz⟩ := hrel
    by_cases c1 : kk < L.length
    · have q3 : decide (kk < L.length) = true := decide_eq_true c1
      rcases hh.out with h | ⟨b, o, rfl, hb, hcell⟩
      · omega
      have hc0 := (hgw.cells.1 b _ hb).trans (hcell kk c1)
      have hx1 : b < wr.heap.size := Nat.lt_of_lt_of_le hb hgw.size
      have htk : L.take (kk + 1) = L.take kk ++ [L[kk]] := List.take_append_getElem c1 |>.symm
      have hok1 := hok.out _ (List.getElem_mem c1)
      unfold okLine at hok1
      have hA : Hid (toBa (allB (L.take kk)) ++ L[kk] = toBa (allB (L.take (kk + 1)))) := by
        refine Lib.hid (ba_ext ?_)
        rw [htk, allB_snoc, toBa_data, ByteArray.data_append, Array.toList_append, toBa_data]
      have hA2 : (toBa (allB (L.take (kk + 1)))).size ≤ 40 * (kk + 1) := by
        rw [← hA.out, ByteArray.size_append]; omega
      obtain ⟨A2, hE⟩ : ∃ A2, toBa (allB (L.take (kk + 1))) = A2 := ⟨_, rfl⟩
      rw [hE] at hA hA2
      have hE := Lib.hid hE
      generalize toBa (allB (L.take kk)) = A1 at hA hz
      generalize L[kk] = t at hc0 hok1 hA
      clear hcell htk
      have g1 : t.toList.isEmpty = false := by
        cases hh2 : t.toList.isEmpty with
        | false => rfl
        | true =>
          rw [List.isEmpty_iff, ByteArray.toList_eq] at hh2
          have := ba_len t
          rw [hh2] at this
          simp at this
          omega
      have g2 : decide ((t.size : Int) > x + 1) = false := decide_eq_false (by omega)
      have g3 : decide (x + 1 < (t.size : Int)) = false := decide_eq_false (by omega)
      go_wp2
      go_roundw
      case rel => exact ⟨kk + 1, by go_num, by omega, by rw [hE.out, hA.out], hg, hgw, by rw [hE.out]; exact hA2⟩
      case measure => simp [RowKit.intOf]; omega
    · have q3 : decide (kk < L.length) = false := decide_eq_false c1
      obtain rfl : kk = L.length := by omega
      rw [List.take_length] at hz
      have hB : Hid (bareL (toBa (allB L)).data.toList = bareL s.data.toList) := by
        refine Lib.hid ?_
        rw [toBa_data]; exact hbare.out
      rw [List.take_length]
      generalize toBa (allB L) = A at hz hB
      have HB1 : Hid (∀ w', Calls Tryd.prog 21 #[.string A] w' fun e w'' => e = .returned (.string (toBa (bareL s.data.toList))) ∧ Gr w' w'') := fun w' => by rw [← hB.out]; exact bare_any A w' (by omega)
      have HB2 : Hid (∀ w', Calls Tryd.prog 21 #[.string s] w' fun e w'' => e = .returned (.string (toBa (bareL s.data.toList))) ∧ Gr w' w'') := fun w' => bare_any s w' (by omega)
      generalize toBa (bareL s.data.toList) = T at HB1 HB2
      have g1 : (T.toList == T.toList) = true := by simp
      go_wp2_with (first
        | (go_at_call 21; (with_reducible refine (HB1.out _).mono ?_); rintro e w3 ⟨rfl, hg3⟩)
        | (go_at_call 21; (with_reducible refine (HB2.out _).mono ?_); rintro e w4 ⟨rfl, hg4⟩)
        | (go_at_call 17; (with_reducible refine (HW.out _ ?_).mono ?_); (· exact (by repeat (first | with_reducible exact Gr.refl _ | with_reducible assumption | refine Gr.setCell ?_ (by first | omega | (simp; done) | (simp; omega)) _ | refine Gr.alloc ?_ _ | refine Gr.drew ?_ | refine Gr.drewN ?_ _ | refine Gr.trans ?_ (by with_reducible assumption)))); rintro e w5 ⟨rfl, hg5⟩))
      go_ret
      exact ⟨rfl, (by repeat (first | with_reducible exact Gr.refl _ | with_reducible assumption | refine Gr.setCell ?_ (by first | omega | (simp; done) | (simp; omega)) _ | refine Gr.alloc ?_ _ | refine Gr.drew ?_ | refine Gr.drewN ?_ _ | refine Gr.trans ?_ (by with_reducible assumption)))⟩
end Go.Proofs.YtckmebfgianeoaaDoor
