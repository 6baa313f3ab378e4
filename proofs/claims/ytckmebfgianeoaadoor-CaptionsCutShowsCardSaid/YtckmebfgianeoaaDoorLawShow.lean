/-
  Walk of the law CaptionsCutShows.
  Conditions: the numbers lie in memory.
-/
import Derived.Test.YtckmebfgianeoaaDoorLawCuts
import Derived.Test.YtckmebfgianeoaaDoorWalkOd
import Derived.Test.YtckmebfgianeoaaDoorMathS
namespace Go.Proofs.YtckmebfgianeoaaDoor
open Go.RowKit Go.Lib
set_option linter.unusedSimpArgs false
set_option linter.unusedVariables false

set_option maxRecDepth 20000 in
set_option maxHeartbeats 4000000 in
theorem lawShow_walk (a : Option Addr) (cap : Nat) (xs : List Int) (fr many : Int) (w : World) (hA : TapeArg w a cap xs) (hf : 0 ≤ fr ∧ fr ≤ 255) (hm : 0 ≤ many ∧ many ≤ 255) (hT : Pow w) :
    Calls Tryd.prog 7 #[.slice a xs.length cap, .int .u8 fr, .int .u8 many] w fun e w' => e = .returned (.bool true) ∧ Gr w w' := by
  have HM : Hid (Calls Tryd.prog 22 #[.slice a xs.length cap] w fun e w' => ∃ v cs, e = .returned v ∧ Gr w w' ∧ Cues w' v cs ∧ Made cs ∧ ordB cs = true) := ordered_any a cap xs w hA
  have HW : Hid (∀ w', Gr w w' → Calls Tryd.prog 17 #[] w' fun e w'' => e = .returned (.bool true) ∧ Gr w' w'') := fun w' hg => awake_any w' (Pow.gr hg hT)
  obtain ⟨x, hx⟩ : ∃ x, fr.tmod 60 = x := ⟨_, rfl⟩
  obtain ⟨y, hy⟩ : ∃ y, many.tmod 60 = y := ⟨_, rfl⟩
  have x1 : 0 ≤ x ∧ x < 60 := by rw [← hx]; exact ⟨Int.tmod_nonneg _ hf.1, Int.tmod_lt_of_pos _ (by omega)⟩
  have y1 : 0 ≤ y ∧ y < 60 := by rw [← hy]; exact ⟨Int.tmod_nonneg _ hm.1, Int.tmod_lt_of_pos _ (by omega)⟩
  go_enter Tryd.func7, Tryd.ntmps7
  go_wp2_with (first
    | (go_at_call 22; (with_reducible refine HM.out.mono ?_); rintro e w1 ⟨lv, cs, rfl, hg1, hL, hMd, hO⟩; obtain ⟨lp, lc, hlv, hlh⟩ := hL.at_.shape; clear hlh; subst hlv; have hMv := Lib.hid hMd.v; clear hMd; have hL := Lib.hid hL; have hO := Lib.hid hO)
    | (go_at_call 14; (with_reducible refine (cut_yes _ cs x (x + y) w1 hL.out ?_).mono ?_); (· exact ⟨hMv.out, by omega, by omega, by omega⟩); rintro e w2 ⟨cv, cs2, rfl, hg2, hC, hm2⟩; obtain ⟨cp, cc, hcv, hch⟩ := hC.at_.shape; clear hch; subst hcv; have hC := Lib.hid hC; have hm2 := Lib.hid hm2; have HO := cordered_any _ cs2 w2 hC.out; have hv2 : vCues cs2 = true := (by rw [vCues_abs, hm2.out]; exact cut_valid (by omega) (by rw [← vCues_abs]; exact hMv.out)); have ho2 : ordB cs2 = true := (by rw [ordB_abs, hm2.out]; exact cut_ord (by rw [← vCues_abs]; exact hMv.out) (by rw [← ordB_abs]; exact hO.out)); rw [hv2, ho2] at HO; have hv2 := Lib.hid hv2; clear ho2; have HO := Lib.hid HO)
    | (go_at_call 25; (with_reducible refine HO.out.mono ?_); rintro e w3 ⟨rfl, hg3⟩))
  have hat : Hid (∀ k : Int, 0 ≤ k → k < y → atV cs2 k = atV cs (x + k)) := by
    refine Lib.hid fun k h1 h2 => ?_
    unfold atV
    rw [hv2.out, hMv.out, if_pos rfl, if_pos rfl, findA_abs, findA_abs, hm2.out]
    exact cut_find h1 (by omega)
  have hno : atV cs2 y = none := by
    unfold atV
    rw [hv2.out, if_pos rfl, findA_abs, hm2.out]
    exact cut_none (by omega)
  have hno := Lib.hid hno
  have hL0 := hL.out.gr (hg2.trans hg3)
  have hC0 := hC.out.gr hg3
  have hg0 := (hg1.trans hg2).trans hg3
  clear HM HO hv2 hMv hO hm2 hL hC hg1 hg2 hg3
  go_loopw [12] (fun n wr => ∃ k : Nat, (k : Int) ≤ y ∧ n = .int .i64 k ∧ Gr w wr ∧ Cues wr (.slice lp cs.length lc) cs ∧ Cues wr (.slice cp cs2.length cc) cs2) (fun n _ => y.toNat - (RowKit.intOf n).toNat)
  case atStart => exact ⟨0, by omega, rfl, hg0, hL0, hC0⟩
  case round =>
    obtain ⟨k, h3, rfl, hg, hLr, hCr⟩ := hrel
    clear hL0 hC0 hg0
    by_cases c1 : (k : Int) < y
    · have q1 : decide ((k : Int) < y) = true := decide_eq_true c1
      obtain ⟨O, hO⟩ : ∃ O, atV cs (x + k) = O := ⟨_, rfl⟩
      have hO2 : atV cs2 k = O := (hat.out k (by omega) c1).trans hO
      have HA1 : Hid (∀ w', Cues w' (.slice cp cs2.length cc) cs2 → Calls Tryd.prog 23 #[.slice cp cs2.length cc, .int .i64 k] w' fun e w'' => ∃ v ss, e = .returned (.tuple #[v, .bool O.isSome]) ∧ Gr w' w'' ∧ StrsR w'' v ss ∧ ss.length ≤ 140737488355328 ∧ ss = O.getD []) := fun w' h => by rw [← hO2]; exact cat_any _ cs2 k w' h ⟨by omega, by omega⟩
      have HA2 : Hid (∀ w', Cues w' (.slice lp cs.length lc) cs → Calls Tryd.prog 23 #[.slice lp cs.length lc, .int .i64 (x + k)] w' fun e w'' => ∃ v ss, e = .returned (.tuple #[v, .bool O.isSome]) ∧ Gr w' w'' ∧ StrsR w'' v ss ∧ ss.length ≤ 140737488355328 ∧ ss = O.getD []) := fun w' h => by rw [← hO]; exact cat_any _ cs (x + k) w' h ⟨by omega, by omega⟩
      have HS : Hid (∀ v1 v2 ss w', StrsR w' v1 ss → StrsR w' v2 ss → ss.length ≤ 140737488355328 → Calls Tryd.prog 18 #[v1, v2] w' fun e w'' => e = .returned (.bool true) ∧ Gr w' w'') := fun v1 v2 ss w' h1 h2 h3 => by
        have := strings_any v1 v2 ss ss w' h1 h2 h3 h3
        rw [decide_eq_true rfl] at this
        exact this
      clear hO hO2 hat hno
      generalize O.isSome = B at HA1 HA2
      generalize O.getD [] = SS at HA1 HA2
      have q2 : (B != B) = false := by cases B <;> rfl
      have hLh := Lib.hid hLr
      have hCh := Lib.hid hCr
      clear hLr hCr
      go_wp2_with (first
        | (go_at_call 23; (with_reducible refine (HA1.out _ hCh.out).mono ?_); rintro e w4 ⟨v1, ss1, rfl, hg4, hS1, hn1, he1⟩; subst he1; obtain ⟨p1, k1, hv1, hh1⟩ := hS1.shape; clear hh1; subst hv1; have hS1 := Lib.hid hS1)
        | (go_at_call 23; (with_reducible refine (HA2.out _ (hLh.out.gr hg4)).mono ?_); rintro e w5 ⟨v2, ss2, rfl, hg5, hS2, hn2, he2⟩; subst he2; obtain ⟨p2, k2, hv2, hh2⟩ := hS2.shape; clear hh2; subst hv2; have hS2 := Lib.hid hS2)
        | (go_at_call 18; (with_reducible refine (HS.out _ _ ss2 _ (hS1.out.gr hg5) hS2.out hn1).mono ?_); rintro e w6 ⟨rfl, hg6⟩))
      have hgB := (hg4.trans hg5).trans hg6
      go_roundw
      case rel => exact ⟨k + 1, by omega, by go_num, hg.trans hgB, hLh.out.gr hgB, hCh.out.gr hgB⟩
      case measure => simp [RowKit.intOf]; omega
    · have q1 : decide ((k : Int) < y) = false := decide_eq_false c1
      have HA1 : Hid (∀ w', Cues w' (.slice cp cs2.length cc) cs2 → Calls Tryd.prog 23 #[.slice cp cs2.length cc, .int .i64 y] w' fun e w'' => ∃ v ss, e = .returned (.tuple #[v, .bool false]) ∧ Gr w' w'' ∧ StrsR w'' v ss ∧ ss.length ≤ 140737488355328) := fun w' h => by
        refine (cat_any _ cs2 y w' h ⟨by omega, by omega⟩).mono ?_
        rintro e w'' ⟨v, ss, rfl, h1, h2, h3, _⟩
        rw [hno.out]
        exact ⟨v, ss, rfl, h1, h2, h3⟩
      have hCh := Lib.hid hCr
      clear hLr hCr hat hno
      go_wp2_with (first
        | (go_at_call 23; (with_reducible refine (HA1.out _ hCh.out).mono ?_); rintro e w4 ⟨v1, ss1, rfl, hg4, hS1, hn1⟩; obtain ⟨p1, k1, hv1, hh1⟩ := hS1.shape; clear hh1; subst hv1; have hS1 := Lib.hid hS1)
        | (go_at_call 17; (with_reducible refine (HW.out _ (hg.trans hg4)).mono ?_); rintro e w5 ⟨rfl, hg5⟩))
      go_ret
      exact ⟨rfl, (by repeat (first | with_reducible exact Gr.refl _ | with_reducible assumption | refine Gr.setCell ?_ (by first | omega | (simp; done) | (simp; omega)) _ | refine Gr.alloc ?_ _ | refine Gr.drew ?_ | refine Gr.drewN ?_ _ | refine Gr.trans ?_ (by with_reducible assumption)))⟩
end Go.Proofs.YtckmebfgianeoaaDoor
