/-
  Walk of the law CaptionsOrdered.
  Conditions: the captions and the numbers lie in memory.
-/
import Derived.Test.YtckmebfgianeoaaDoorLawCuts
import Derived.Test.YtckmebfgianeoaaDoorWalkOd
import Derived.Test.YtckmebfgianeoaaDoorWalkAt
namespace Go.Proofs.YtckmebfgianeoaaDoor
open Go.RowKit Go.Lib
set_option linter.unusedSimpArgs false
set_option linter.unusedVariables false

theorem wrap_bound (m : Int) : -9223372036854775808 ≤ IntKind.i64.wrap m ∧ IntKind.i64.wrap m ≤ 9223372036854775807 := by
  rw [IntKind.wrap_i64]; omega
theorem and_bound (n : Int) : -9223372036854775808 ≤ bits BinOp.and IntKind.i64 n 63 ∧ bits BinOp.and IntKind.i64 n 63 ≤ 9223372036854775807 := wrap_bound _

set_option maxRecDepth 20000 in
set_option maxHeartbeats 4000000 in
theorem lawOrdd_walk (rv : Value) (rcs : List Cu) (a : Option Addr) (cap : Nat) (xs : List Int) (n : Int) (w : World) (hR : Cues w rv rcs) (hA : TapeArg w a cap xs) (hn : -9223372036854775808 ≤ n ∧ n ≤ 9223372036854775807) (hT : Pow w) :
    Calls Tryd.prog 6 #[rv, .slice a xs.length cap, .int .i64 n] w fun e w' => e = .returned (.bool true) ∧ Gr w w' := by
  have HM : Hid (Calls Tryd.prog 13 #[.slice a xs.length cap] w fun e w' => ∃ v cs, e = .returned v ∧ Gr w w' ∧ Cues w' v cs ∧ Made cs) := made_any a cap xs w hA
  have HO : Hid (∀ w', Gr w w' → Calls Tryd.prog 22 #[.slice a xs.length cap] w' fun e w'' => ∃ v cs, e = .returned v ∧ Gr w' w'' ∧ Cues w'' v cs ∧ Made cs ∧ ordB cs = true) := fun w' hg => ordered_any a cap xs w' (hA.gr hg)
  have HW : Hid (∀ w', Gr w w' → Calls Tryd.prog 17 #[] w' fun e w'' => e = .returned (.bool true) ∧ Gr w' w'') := fun w' hg => awake_any w' (Pow.gr hg hT)
  obtain ⟨ra, rc, rfl, rh⟩ := hR.at_.shape
  clear rh
  have hR := Lib.hid hR
  obtain ⟨x, hx⟩ : ∃ x, bits BinOp.and IntKind.i64 n 63 = x := ⟨_, rfl⟩
  go_enter Tryd.func6, Tryd.ntmps6
  go_wp2_with (first
    | (go_at_call 13; (with_reducible refine HM.out.mono ?_); rintro e w1 ⟨mv, mcs, rfl, hg1, hM1, _⟩; obtain ⟨ma, mc, rfl, mh⟩ := hM1.at_.shape; clear mh; have hM1 := Lib.hid hM1)
    | (go_at_call 22; (with_reducible refine (HO.out _ hg1).mono ?_); rintro e w2 ⟨ov, ocs, rfl, hg2, hO2, _, _⟩; obtain ⟨oa, oc, rfl, oh⟩ := hO2.at_.shape; clear oh; have hO2 := Lib.hid hO2))
  have hgB : Gr w2 (w2.alloc (.cells #[.slice ra rcs.length rc, .slice ma mcs.length mc, .slice oa ocs.length oc] 22)) := (Gr.refl w2).alloc _
  have hL := Cel.new w2 #[.slice ra rcs.length rc, .slice ma mcs.length mc, .slice oa ocs.length oc] 22
  have hgW := (hg1.trans hg2).trans hgB
  have hMB := (hM1.out.gr hg2).gr hgB
  have hOB := hO2.out.gr hgB
  have hxb : -9223372036854775808 ≤ x ∧ x ≤ 9223372036854775807 := by rw [← hx]; exact and_bound n
  clear hM1 hO2 hgB hg1 hg2 HM
  generalize w2.alloc (.cells #[.slice ra rcs.length rc, .slice ma mcs.length mc, .slice oa ocs.length oc] 22) = U at *
  generalize w2.heap.size = K at *
  go_loopw [22] (fun k wr => ∃ kk : Nat, kk ≤ 3 ∧ k = .int .i64 kk ∧ Gr w wr ∧ Cel wr K [.slice ra rcs.length rc, .slice ma mcs.length mc, .slice oa ocs.length oc] ∧ Cues wr (.slice ma mcs.length mc) mcs ∧ Cues wr (.slice oa ocs.length oc) ocs) (fun k _ => 3 - (RowKit.intOf k).toNat)
  case atStart => exact ⟨0, by omega, rfl, hgW, hL, hMB, hOB⟩
  case round =>
    obtain ⟨kk, h3, rfl, hg, hLr, hMr, hOr⟩ := hrel
    clear hL hgW hMB hOB
    by_cases c1 : kk < 3
    · have q1 : decide ((kk : Int) < 3) = true := decide_eq_true (by omega)
      obtain ⟨ua, uc, cs, hcell, hCu⟩ : ∃ ua uc, ∃ cs : List Cu, wr.cell? ⟨K, kk, none⟩ = some (.slice ua cs.length uc) ∧ Cues wr (.slice ua cs.length uc) cs := by
        rcases (show kk = 0 ∨ kk = 1 ∨ kk = 2 by omega) with rfl | rfl | rfl
        · exact ⟨ra, rc, rcs, hLr.three.2.1, hR.out.gr hg⟩
        · exact ⟨ma, mc, mcs, hLr.three.2.2.1, hMr⟩
        · exact ⟨oa, oc, ocs, hLr.three.2.2.2.1, hOr⟩
      have hCu := Lib.hid hCu
      have hLx := hLr.lt
      have hLr := Lib.hid hLr
      have hMr := Lib.hid hMr
      have hOr := Lib.hid hOr
      have hP := Cel.new wr #[.int .i64 n, .int .i64 x] 2
      have hgP : Gr wr (wr.alloc (.cells #[.int .i64 n, .int .i64 x] 2)) := (Gr.refl wr).alloc _
      have hg3 := hg.trans hgP
      have hL3 := hLr.out.gr hgP
      have hM3 := hMr.out.gr hgP
      have hO3 := hOr.out.gr hgP
      have hC3 := hCu.out.gr hgP
      go_wp2
      clear hgP hLr hMr hOr hCu hcell hLx hg
      generalize wr.alloc (.cells #[.int .i64 n, .int .i64 x] 2) = V at *
      generalize wr.heap.size = G at *
      go_loopw [31] (fun k wr => ∃ jj : Nat, jj ≤ 2 ∧ k = .int .i64 jj ∧ Gr w wr ∧ Cel wr G [.int .i64 n, .int .i64 x] ∧ Cel wr K [.slice ra rcs.length rc, .slice ma mcs.length mc, .slice oa ocs.length oc] ∧ Cues wr (.slice ma mcs.length mc) mcs ∧ Cues wr (.slice oa ocs.length oc) ocs ∧ Cues wr (.slice ua cs.length uc) cs) (fun k _ => 2 - (RowKit.intOf k).toNat)
      case atStart => exact ⟨0, by omega, rfl, hg3, hP, hL3, hM3, hO3, hC3⟩
      case round =>
        obtain ⟨jj, hj, rfl, hg, hPr, hLr, hMr, hOr, hCr⟩ := hrel
        clear hP hg3 hL3 hM3 hO3 hC3
        by_cases cj : jj < 2
        · have q2 : decide ((jj : Int) < 2) = true := decide_eq_true (by omega)
          obtain ⟨a', n0, hab⟩ : ∃ a' : Int, wr.cell? ⟨G, jj, none⟩ = some (.int .i64 a') ∧ (-9223372036854775808 ≤ a' ∧ a' ≤ 9223372036854775807) := by
            rcases (show jj = 0 ∨ jj = 1 by omega) with rfl | rfl
            · exact ⟨n, hPr.two.2.1, hn⟩
            · exact ⟨x, hPr.two.2.2.1, hxb⟩
          obtain ⟨O, hO⟩ : ∃ O, atV cs a' = O := ⟨_, rfl⟩
          have HA1 : Hid (∀ w', Cues w' (.slice ua cs.length uc) cs → Calls Tryd.prog 23 #[.slice ua cs.length uc, .int .i64 a'] w' fun e w'' => ∃ v ss, e = .returned (.tuple #[v, .bool O.isSome]) ∧ Gr w' w'' ∧ StrsR w'' v ss ∧ ss.length ≤ 140737488355328 ∧ ss = O.getD []) := fun w' h => by rw [← hO]; exact cat_any _ cs a' w' h hab
          have HA2 : Hid (∀ w', Cues w' (.slice ua cs.length uc) cs → Calls Tryd.prog 24 #[.slice ua cs.length uc, .int .i64 a'] w' fun e w'' => ∃ v ss, e = .returned (.tuple #[v, .bool O.isSome]) ∧ Gr w' w'' ∧ StrsR w'' v ss ∧ ss.length ≤ 140737488355328 ∧ ss = O.getD []) := fun w' h => by rw [← hO]; exact rat_any _ cs a' w' h hab
          have HS : Hid (∀ v1 v2 ss w', StrsR w' v1 ss → StrsR w' v2 ss → ss.length ≤ 140737488355328 → Calls Tryd.prog 18 #[v1, v2] w' fun e w'' => e = .returned (.bool true) ∧ Gr w' w'') := fun v1 v2 ss w' h1 h2 h3 => by
            have := strings_any v1 v2 ss ss w' h1 h2 h3 h3
            rw [decide_eq_true rfl] at this
            exact this
          clear hO
          generalize O.isSome = B at HA1 HA2
          generalize O.getD [] = SS at HA1 HA2
          have q3 : (B != B) = false := by cases B <;> rfl
          have hCh := Lib.hid hCr
          have hLx := hLr.lt
          have hPx := hPr.lt
          have hLr := Lib.hid hLr
          have hPr := Lib.hid hPr
          have hMr := Lib.hid hMr
          have hOr := Lib.hid hOr
          clear hCr
          go_wp2_with (first
            | (go_at_call 23; (with_reducible refine (HA1.out _ hCh.out).mono ?_); rintro e w4 ⟨v1, ss1, rfl, hg4, hS1, hn1, he1⟩; subst he1; obtain ⟨p1, k1, hv1, hh1⟩ := hS1.shape; clear hh1; subst hv1; have hS1 := Lib.hid hS1)
            | (go_at_call 24; (with_reducible refine (HA2.out _ (hCh.out.gr hg4)).mono ?_); rintro e w5 ⟨v2, ss2, rfl, hg5, hS2, hn2, he2⟩; subst he2; obtain ⟨p2, k2, hv2, hh2⟩ := hS2.shape; clear hh2; subst hv2; have hS2 := Lib.hid hS2)
            | (go_at_call 18; (with_reducible refine (HS.out _ _ ss2 _ (hS1.out.gr hg5) hS2.out hn2).mono ?_); rintro e w6 ⟨rfl, hg6⟩))
          have hgB := (hg4.trans hg5).trans hg6
          go_roundw
          case rel => exact ⟨jj + 1, by omega, by go_num, hg.trans hgB, hPr.out.gr hgB, hLr.out.gr hgB, hMr.out.gr hgB, hOr.out.gr hgB, hCh.out.gr hgB⟩
          case measure => simp [RowKit.intOf]; omega
        · have q2 : decide ((jj : Int) < 2) = false := decide_eq_false (by omega)
          obtain ⟨V1, hV1⟩ : ∃ V1, (vCues cs && ordB cs) = V1 := ⟨_, rfl⟩
          have HB1 : Hid (∀ w', Cues w' (.slice ua cs.length uc) cs → Calls Tryd.prog 25 #[.slice ua cs.length uc] w' fun e w'' => e = .returned (.bool V1) ∧ Gr w' w'') := fun w' h => by rw [← hV1]; exact cordered_any _ cs w' h
          have HB2 : Hid (∀ w', Cues w' (.slice ua cs.length uc) cs → Calls Tryd.prog 26 #[.slice ua cs.length uc] w' fun e w'' => e = .returned (.bool V1) ∧ Gr w' w'') := fun w' h => by rw [← hV1, Bool.and_comm]; exact rordered_any _ cs w' h
          clear hV1
          have q3 : (V1 != V1) = false := by cases V1 <;> rfl
          have hCh := Lib.hid hCr
          have hLr := Lib.hid hLr
          have hMr := Lib.hid hMr
          have hOr := Lib.hid hOr
          clear hCr hPr
          go_wp2_with (first
            | (go_at_call 25; (with_reducible refine (HB1.out _ hCh.out).mono ?_); rintro e w4 ⟨rfl, hg4⟩)
            | (go_at_call 26; (with_reducible refine (HB2.out _ (hCh.out.gr hg4)).mono ?_); rintro e w5 ⟨rfl, hg5⟩))
          have hgB := hg4.trans hg5
          go_roundw
          case rel => exact ⟨kk + 1, by omega, by go_num, hg.trans hgB, hLr.out.gr hgB, hMr.out.gr hgB, hOr.out.gr hgB⟩
          case measure => simp [RowKit.intOf]; omega
    · have q1 : decide ((kk : Int) < 3) = false := decide_eq_false (by omega)
      clear hLr hMr hOr
      go_wp2_with (first
        | (go_at_call 22; (with_reducible refine (HO.out _ hg).mono ?_); rintro e w2 ⟨ov, os, rfl, hg2, hO2, hMo, hoo⟩; obtain ⟨oa2, oc2, rfl, oh⟩ := hO2.at_.shape; clear oh; have HB := cordered_any _ os w2 hO2; rw [hMo.v, hoo] at HB; have HB := Lib.hid HB)
        | (go_at_call 25; (with_reducible refine HB.out.mono ?_); rintro e w4 ⟨rfl, hg4⟩)
        | (go_at_call 17; (with_reducible refine (HW.out _ ((hg.trans hg2).trans hg4)).mono ?_); rintro e w5 ⟨rfl, hg5⟩))
      go_ret
      exact ⟨rfl, (by repeat (first | with_reducible exact Gr.refl _ | with_reducible assumption | refine Gr.setCell ?_ (by first | omega | (simp; done) | (simp; omega)) _ | refine Gr.alloc ?_ _ | refine Gr.drew ?_ | refine Gr.drewN ?_ _ | refine Gr.trans ?_ (by with_reducible assumption)))⟩
end Go.Proofs.YtckmebfgianeoaaDoor
