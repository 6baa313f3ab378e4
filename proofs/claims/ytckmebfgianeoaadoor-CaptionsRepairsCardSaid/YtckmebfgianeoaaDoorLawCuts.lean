/-
  Walk of the law CaptionsCuts.
  Conditions: the captions and the numbers lie in memory.
-/
import Derived.Test.YtckmebfgianeoaaDoorWalkAw
import Derived.Test.YtckmebfgianeoaaDoorWalkTp
import Derived.Test.YtckmebfgianeoaaDoorWalkCu
namespace Go.Proofs.YtckmebfgianeoaaDoor
open Go.RowKit Go.Lib
set_option linter.unusedSimpArgs false
set_option linter.unusedVariables false

/-- what a cut hands back -/
def cutB (cs : List Cu) (a b : Int) : Bool := vCues cs && decide (0 ≤ a ∧ a ≤ b ∧ b ≤ 2147483647)
def cutV (cs : List Cu) (a b : Int) : List AC := if cutB cs a b then cutA a b (cs.map cAbs) else []
def cutE (cs : List Cu) (a b : Int) : Int := if cutB cs a b then 0 else 1
theorem cutB_good {cs : List Cu} {a b : Int} : cutB cs a b = true ↔ cutGood cs a b := by
  unfold cutB cutGood
  rw [Bool.and_eq_true, decide_eq_true_eq]
theorem cut_any (v : Value) (cs : List Cu) (a b : Int) (w : World) (hC : Cues w v cs) :
    Calls Tryd.prog 14 #[v, .int .i64 a, .int .i64 b] w fun e w' => ∃ v' cs', e = .returned (.tuple #[v', .int .i64 (cutE cs a b)]) ∧ Gr w w' ∧ Cues w' v' cs' ∧ cs'.map cAbs = cutV cs a b := by
  unfold cutE cutV
  by_cases h : cutGood cs a b
  · rw [cutB_good.2 h, if_pos rfl, if_pos rfl]
    exact cut_yes v cs a b w hC h
  · have hb : cutB cs a b = false := by
      cases hb : cutB cs a b with
      | false => rfl
      | true => exact absurd (cutB_good.1 hb) h
    rw [hb]
    refine (cut_no v cs a b w hC h).mono ?_
    rintro e w' ⟨rfl, hg⟩
    exact ⟨_, [], rfl, hg, ⟨CuesR.nil _, fun c hc => (by cases hc), by simp⟩, rfl⟩
theorem rcut_any (v : Value) (cs : List Cu) (a b : Int) (w : World) (hC : Cues w v cs) :
    Calls Tryd.prog 15 #[v, .int .i64 a, .int .i64 b] w fun e w' => ∃ v' cs', e = .returned (.tuple #[v', .int .i64 (cutE cs a b)]) ∧ Gr w w' ∧ Cues w' v' cs' ∧ cs'.map cAbs = cutV cs a b := by
  unfold cutE cutV
  by_cases h : cutGood cs a b
  · rw [cutB_good.2 h, if_pos rfl, if_pos rfl]
    exact rcut_yes v cs a b w hC h
  · have hb : cutB cs a b = false := by
      cases hb : cutB cs a b with
      | false => rfl
      | true => exact absurd (cutB_good.1 hb) h
    rw [hb]
    refine (rcut_no v cs a b w hC h).mono ?_
    rintro e w' ⟨rfl, hg⟩
    exact ⟨_, [], rfl, hg, ⟨CuesR.nil _, fun c hc => (by cases hc), by simp⟩, rfl⟩

set_option maxRecDepth 20000 in
set_option maxHeartbeats 4000000 in
theorem lawCuts_walk (rv : Value) (rcs : List Cu) (a : Option Addr) (cap : Nat) (xs : List Int) (fr to : Int) (w : World) (hR : Cues w rv rcs) (hA : TapeArg w a cap xs) (hT : Pow w) :
    Calls Tryd.prog 3 #[rv, .slice a xs.length cap, .int .i64 fr, .int .i64 to] w fun e w' => e = .returned (.bool true) ∧ Gr w w' := by
  have HM : Hid (Calls Tryd.prog 13 #[.slice a xs.length cap] w fun e w' => ∃ v cs, e = .returned v ∧ Gr w w' ∧ Cues w' v cs ∧ Made cs) := made_any a cap xs w hA
  have HW : Hid (∀ w', Gr w w' → Calls Tryd.prog 17 #[] w' fun e w'' => e = .returned (.bool true) ∧ Gr w' w'') := fun w' hg => awake_any w' (Pow.gr hg hT)
  obtain ⟨ra, rc, rfl, rh⟩ := hR.at_.shape
  clear rh
  have hR := Lib.hid hR
  go_enter Tryd.func3, Tryd.ntmps3
  go_wp2_with (go_at_call 13; (with_reducible refine HM.out.mono ?_); rintro e w1 ⟨mv, mcs, rfl, hg1, hM1, _⟩; obtain ⟨ma, mc, rfl, mh⟩ := hM1.at_.shape; clear mh)
  have hL := Cel.new w1 #[.slice ra rcs.length rc, .slice ma mcs.length mc] 22
  have hg2 : Gr w (w1.alloc (.cells #[.slice ra rcs.length rc, .slice ma mcs.length mc] 22)) := hg1.alloc _
  have hM2 := hM1.gr ((Gr.refl w1).alloc (.cells #[.slice ra rcs.length rc, .slice ma mcs.length mc] 22))
  clear hg1 hM1
  go_loopw [22] (fun k wr => ∃ kk : Nat, kk ≤ 2 ∧ k = .int .i64 kk ∧ Gr w wr ∧ Cel wr w1.heap.size [.slice ra rcs.length rc, .slice ma mcs.length mc] ∧ Cues wr (.slice ma mcs.length mc) mcs) (fun k _ => 2 - (RowKit.intOf k).toNat)
  case atStart => exact ⟨0, by omega, rfl, hg2, hL, hM2⟩
  case round =>
    obtain ⟨kk, h3, rfl, hg, hLr, hMr⟩ := hrel
    clear hL hg2 hM2
    by_cases c1 : kk < 2
    · have q1 : decide ((kk : Int) < 2) = true := decide_eq_true (by omega)
      obtain ⟨ua, uc, cs, hcell, hCu⟩ : ∃ ua uc, ∃ cs : List Cu, wr.cell? ⟨w1.heap.size, kk, none⟩ = some (.slice ua cs.length uc) ∧ Cues wr (.slice ua cs.length uc) cs := by
        rcases (show kk = 0 ∨ kk = 1 by omega) with rfl | rfl
        · exact ⟨ra, rc, rcs, hLr.two.2.1, hR.out.gr hg⟩
        · exact ⟨ma, mc, mcs, hLr.two.2.2.1, hMr⟩
      have hCu := Lib.hid hCu
      have hLx := hLr.lt
      have hLr := Lib.hid hLr
      have hMr := Lib.hid hMr
      obtain ⟨x, hx⟩ : ∃ x, bits BinOp.and IntKind.i64 fr 31 = x := ⟨_, rfl⟩
      obtain ⟨y, hy⟩ : ∃ y, bits BinOp.and IntKind.i64 to 63 = y := ⟨_, rfl⟩
      have hP := Cel.new wr #[.int .i64 fr, .int .i64 to, .int .i64 x, .int .i64 y] 26
      have hgP : Gr wr (wr.alloc (.cells #[.int .i64 fr, .int .i64 to, .int .i64 x, .int .i64 y] 26)) := (Gr.refl wr).alloc _
      have hg3 := hg.trans hgP
      have hL3 := hLr.out.gr hgP
      have hM3 := hMr.out.gr hgP
      have hC3 := hCu.out.gr hgP
      go_wp2
      clear hgP hLr hMr hCu hcell hLx hg
      generalize wr.alloc (.cells #[.int .i64 fr, .int .i64 to, .int .i64 x, .int .i64 y] 26) = V at *
      generalize wr.heap.size = G at *
      go_loopw [36] (fun k wr => ∃ jj : Nat, jj ≤ 2 ∧ k = .int .i64 jj ∧ Gr w wr ∧ Cel wr G [.int .i64 fr, .int .i64 to, .int .i64 x, .int .i64 y] ∧ Cel wr w1.heap.size [.slice ra rcs.length rc, .slice ma mcs.length mc] ∧ Cues wr (.slice ma mcs.length mc) mcs ∧ Cues wr (.slice ua cs.length uc) cs) (fun k _ => 2 - (RowKit.intOf k).toNat)
      case atStart => exact ⟨0, by omega, rfl, hg3, hP, hL3, hM3, hC3⟩
      case round =>
        obtain ⟨jj, hj, rfl, hg, hPr, hLr, hMr, hCr⟩ := hrel
        clear hP hg3 hL3 hM3 hC3
        by_cases cj : jj < 2
        · have q2 : decide ((jj : Int) < 2) = true := decide_eq_true (by omega)
          obtain ⟨a', b', n0, n1⟩ : ∃ a' b' : Int, wr.cell? ⟨G, jj * 2, none⟩ = some (.int .i64 a') ∧ wr.cell? ⟨G, jj * 2 + 1, none⟩ = some (.int .i64 b') := by
            rcases (show jj = 0 ∨ jj = 1 by omega) with rfl | rfl
            · exact ⟨fr, to, (hPr.2 0 _ rfl).1, (hPr.2 1 _ rfl).1⟩
            · exact ⟨x, y, (hPr.2 2 _ rfl).1, (hPr.2 3 _ rfl).1⟩
          have HC1 : Hid (∀ w', Cues w' (.slice ua cs.length uc) cs → Calls Tryd.prog 14 #[.slice ua cs.length uc, .int .i64 a', .int .i64 b'] w' fun e w'' => ∃ v' cs', e = .returned (.tuple #[v', .int .i64 (cutE cs a' b')]) ∧ Gr w' w'' ∧ Cues w'' v' cs' ∧ cs'.map cAbs = cutV cs a' b') := fun w' h => cut_any _ cs a' b' w' h
          have HC2 : Hid (∀ w', Cues w' (.slice ua cs.length uc) cs → Calls Tryd.prog 15 #[.slice ua cs.length uc, .int .i64 a', .int .i64 b'] w' fun e w'' => ∃ v' cs', e = .returned (.tuple #[v', .int .i64 (cutE cs a' b')]) ∧ Gr w' w'' ∧ Cues w'' v' cs' ∧ cs'.map cAbs = cutV cs a' b') := fun w' h => rcut_any _ cs a' b' w' h
          have HS : Hid (∀ v1 v2 c1 c2 w', Cues w' v1 c1 → Cues w' v2 c2 → c1.map cAbs = c2.map cAbs → Calls Tryd.prog 16 #[v1, v2] w' fun e w'' => e = .returned (.bool true) ∧ Gr w' w'') := fun v1 v2 c1 c2 w' h1 h2 h3 => by
            have := same_any v1 v2 c1 c2 w' h1 h2
            rw [decide_eq_true h3] at this
            exact this
          generalize cutE cs a' b' = E at HC1 HC2
          have hgA : Gr wr (wr.alloc (.cells #[.int .i64 a', .int .i64 b'] 26)) := (Gr.refl wr).alloc _
          have hCa := Lib.hid (hCr.gr hgA)
          have hnB := Cel.new wr #[.int .i64 a', .int .i64 b'] 26
          go_wp2_with (first
            | (go_at_call 14; (with_reducible refine (HC1.out _ hCa.out).mono ?_); rintro e w2 ⟨v2, cs2, rfl, hg2, hC2, hm2⟩; obtain ⟨p2, k2, hv2, hh2⟩ := hC2.at_.shape; clear hh2; subst hv2; obtain ⟨_, z0, z1, _, _⟩ := (hnB.gr hg2).two; have hC2 := Lib.hid hC2; have hm2 := Lib.hid hm2)
            | (go_at_call 15; (with_reducible refine (HC2.out _ (hCa.out.gr hg2)).mono ?_); rintro e w3 ⟨v3, cs3, rfl, hg3, hC3, hm3⟩; obtain ⟨p3, k3, hv3, hh3⟩ := hC3.at_.shape; clear hh3; subst hv3; have hC3 := Lib.hid hC3; have hm3 := Lib.hid hm3)
            | (go_at_call 16; (with_reducible refine (HS.out _ _ cs2 cs3 _ (hC2.out.gr hg3) hC3.out ?_).mono ?_); (· exact hm2.out.trans hm3.out.symm); rintro e w4 ⟨rfl, hg4⟩))
          have hgB := ((hgA.trans hg2).trans hg3).trans hg4
          go_roundw
          case rel => exact ⟨jj + 1, by omega, by go_num, hg.trans hgB, hPr.gr hgB, hLr.gr hgB, hMr.gr hgB, hCr.gr hgB⟩
          case measure => simp [RowKit.intOf]; omega
        · have q2 : decide ((jj : Int) < 2) = false := decide_eq_false (by omega)
          have hCr := Lib.hid hCr
          have hMr := Lib.hid hMr
          go_wp2
          go_roundw
          case rel => exact ⟨kk + 1, by omega, by go_num, hg, hLr, hMr.out⟩
          case measure => simp [RowKit.intOf]; omega
    · have q1 : decide ((kk : Int) < 2) = false := decide_eq_false (by omega)
      go_wp2_with (go_at_call 17; (with_reducible refine (HW.out _ hg).mono ?_); rintro e w2 ⟨rfl, hg2⟩)
      go_ret
      exact ⟨rfl, (by repeat (first | with_reducible exact Gr.refl _ | with_reducible assumption | refine Gr.setCell ?_ (by first | omega | (simp; done) | (simp; omega)) _ | refine Gr.alloc ?_ _ | refine Gr.drew ?_ | refine Gr.drewN ?_ _ | refine Gr.trans ?_ (by with_reducible assumption)))⟩
end Go.Proofs.YtckmebfgianeoaaDoor
