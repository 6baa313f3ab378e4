/-
  Walk of the law CaptionsFormats.
  Conditions: the captions and the numbers lie in memory; up to 10^7 captions.
-/
import Derived.Test.YtckmebfgianeoaaDoorLawCuts
import Derived.Test.YtckmebfgianeoaaDoorMathPf
namespace Go.Proofs.YtckmebfgianeoaaDoor
open Go.RowKit Go.Lib
set_option linter.unusedSimpArgs false
set_option linter.unusedVariables false

abbrev usualA : Array Value := #[.int .i64 25, .int .i64 1, .int .i64 30000, .int .i64 1001, .int .i64 240, .int .i64 1, .int .i64 24000, .int .i64 1001, .int .i64 1, .int .i64 3]
theorem usual_cells (w : World) (A : Obj) (t : TypeId) (e : Int) (h0 : 0 ≤ e) (h5 : e < 5) : ∃ un ud : Int, I64 un ∧ I64 ud ∧
    ((w.alloc A).alloc (.cells #[.int .i64 25, .int .i64 1, .int .i64 30000, .int .i64 1001, .int .i64 240, .int .i64 1, .int .i64 24000, .int .i64 1001, .int .i64 1, .int .i64 3] t)).cell? ⟨w.heap.size + 1, e.toNat * 2, none⟩ = some (.int .i64 un) ∧
    ((w.alloc A).alloc (.cells #[.int .i64 25, .int .i64 1, .int .i64 30000, .int .i64 1001, .int .i64 240, .int .i64 1, .int .i64 24000, .int .i64 1001, .int .i64 1, .int .i64 3] t)).cell? ⟨w.heap.size + 1, e.toNat * 2 + 1, none⟩ = some (.int .i64 ud) := by
  have hB := Cel.new (w.alloc A) usualA t
  rw [show (w.alloc A).heap.size = w.heap.size + 1 by simp] at hB
  rcases (show e.toNat = 0 ∨ e.toNat = 1 ∨ e.toNat = 2 ∨ e.toNat = 3 ∨ e.toNat = 4 by omega) with h | h | h | h | h <;> rw [h]
  · exact ⟨25, 1, ⟨by omega, by omega⟩, ⟨by omega, by omega⟩, (hB.2 0 _ rfl).1, (hB.2 1 _ rfl).1⟩
  · exact ⟨30000, 1001, ⟨by omega, by omega⟩, ⟨by omega, by omega⟩, (hB.2 2 _ rfl).1, (hB.2 3 _ rfl).1⟩
  · exact ⟨240, 1, ⟨by omega, by omega⟩, ⟨by omega, by omega⟩, (hB.2 4 _ rfl).1, (hB.2 5 _ rfl).1⟩
  · exact ⟨24000, 1001, ⟨by omega, by omega⟩, ⟨by omega, by omega⟩, (hB.2 6 _ rfl).1, (hB.2 7 _ rfl).1⟩
  · exact ⟨1, 3, ⟨by omega, by omega⟩, ⟨by omega, by omega⟩, (hB.2 8 _ rfl).1, (hB.2 9 _ rfl).1⟩
theorem fifth {x : Int} : 0 ≤ (wrap64 (x.tmod 5 + 5)).tmod 5 ∧ (wrap64 (x.tmod 5 + 5)).tmod 5 < 5 := by
  have h1 := Int.tmod_lt_of_pos x (show (0 : Int) < 5 by omega)
  have h2 := Int.lt_tmod_of_pos x (show (0 : Int) < 5 by omega)
  rw [show wrap64 (x.tmod 5 + 5) = x.tmod 5 + 5 by unfold wrap64; omega]
  exact ⟨Int.tmod_nonneg _ (by omega), Int.tmod_lt_of_pos _ (by omega)⟩

set_option maxRecDepth 20000 in
set_option maxHeartbeats 4000000 in
theorem lawFmts_walk (rv : Value) (rcs : List Cu) (a : Option Addr) (cap : Nat) (xs : List Int) (rn rd which : Int) (w : World) (hR : Cues w rv rcs) (hA : TapeArg w a cap xs) (hn : I64 rn) (hd : I64 rd) (hw : I64 which) (hl : rcs.length ≤ 10000000) (hT : Pow w) (hM : Mx w) :
    Calls Tryd.prog 8 #[rv, .slice a xs.length cap, .agg #[.int .i64 rn, .int .i64 rd], .int .i64 which] w fun e w' => e = .returned (.bool true) ∧ Gr w w' := by
  have HM : Hid (∀ w', Gr w w' → Calls Tryd.prog 13 #[.slice a xs.length cap] w' fun e w'' => ∃ v cs, e = .returned v ∧ Gr w' w'' ∧ Cues w'' v cs ∧ Made cs) := fun w' hg => made_any a cap xs w' (hA.gr hg)
  have HW : Hid (∀ w', Gr w w' → Calls Tryd.prog 17 #[] w' fun e w'' => e = .returned (.bool true) ∧ Gr w' w'') := fun w' hg => awake_any w' (Pow.gr hg hT)
  obtain ⟨ra, rc, rfl, rh⟩ := hR.at_.shape
  clear rh
  have hR := Lib.hid hR
  have hfi := fifth (x := which)
  obtain ⟨un, ud, hu1, hu2, hc0, hc1⟩ := usual_cells w (.cells #[.int .i64 rn, .int .i64 rd] 47) 47 _ hfi.1 hfi.2
  go_enter Tryd.func8, Tryd.ntmps8
  go_wp2_with (go_at_call 13; (with_reducible refine (HM.out _ ?_).mono ?_); (· exact (by repeat (first | with_reducible exact Gr.refl _ | with_reducible assumption | refine Gr.setCell ?_ (by first | omega | (simp; done) | (simp; omega)) _ | refine Gr.alloc ?_ _ | refine Gr.drew ?_ | refine Gr.drewN ?_ _ | refine Gr.trans ?_ (by with_reducible assumption)))); rintro e w1 ⟨mv, mcs, rfl, hg1, hM1, hmd⟩; obtain ⟨ma, mc, rfl, mh⟩ := hM1.at_.shape; clear mh; have hM1 := Lib.hid hM1; have hmd := Lib.hid hmd)
  have hk0 := ((((Cel.new w #[.int .i64 rn, .int .i64 rd] 47).alloc (.cells usualA 47)).alloc (.cells #[.int .i64 un, .int .i64 ud] 47)).gr hg1).alloc (.cells #[.slice ra rcs.length rc, .slice ma mcs.length mc] 22)
  have hk2 := ((Cel.new ((w.alloc (.cells #[.int .i64 rn, .int .i64 rd] 47)).alloc (.cells usualA 47)) #[.int .i64 un, .int .i64 ud] 47).gr hg1).alloc (.cells #[.slice ra rcs.length rc, .slice ma mcs.length mc] 22)
  rw [show ((w.alloc (.cells #[.int .i64 rn, .int .i64 rd] 47)).alloc (.cells usualA 47)).heap.size = w.heap.size + 1 + 1 by simp] at hk2
  have hgB : Gr w1 (w1.alloc (.cells #[.slice ra rcs.length rc, .slice ma mcs.length mc] 22)) := (Gr.refl w1).alloc _
  have hL := Cel.new w1 #[.slice ra rcs.length rc, .slice ma mcs.length mc] 22
  have hgW : Gr w (w1.alloc (.cells #[.slice ra rcs.length rc, .slice ma mcs.length mc] 22)) := ((((Gr.refl w).alloc _).alloc _).alloc _ |>.trans hg1).trans hgB
  have hMB := hM1.out.gr hgB
  simp only [List.toList_toArray] at hk0 hk2 hL
  clear hM1 hgB hg1 HM hc0 hc1 hfi
  generalize w1.alloc (.cells #[.slice ra rcs.length rc, .slice ma mcs.length mc] 22) = U at *
  generalize w1.heap.size = K at *
  go_loopw [37] (fun k wr => ∃ kk : Nat, kk ≤ 2 ∧ k = .int .i64 kk ∧ Gr w wr ∧ Cel wr K [.slice ra rcs.length rc, .slice ma mcs.length mc] ∧ Cel wr w.heap.size [.int .i64 rn, .int .i64 rd] ∧ Cel wr (w.heap.size + 1 + 1) [.int .i64 un, .int .i64 ud] ∧ Cues wr (.slice ma mcs.length mc) mcs) (fun k _ => 2 - (RowKit.intOf k).toNat)
  case atStart => exact ⟨0, by omega, rfl, hgW, hL, hk0, hk2, hMB⟩
  case round =>
    obtain ⟨kk, h3, rfl, hg, hLr, h0r, h2r, hMr⟩ := hrel
    clear hL hgW hMB hk0 hk2
    by_cases c1 : kk < 2
    · have q1 : decide ((kk : Int) < 2) = true := decide_eq_true (by omega)
      obtain ⟨ua, uc, cs, hcell, hCu, hcn⟩ : ∃ ua uc, ∃ cs : List Cu, wr.cell? ⟨K, kk, none⟩ = some (.slice ua cs.length uc) ∧ Cues wr (.slice ua cs.length uc) cs ∧ cs.length ≤ 10000000 := by
        rcases (show kk = 0 ∨ kk = 1 by omega) with rfl | rfl
        · exact ⟨ra, rc, rcs, hLr.two.2.1, hR.out.gr hg, hl⟩
        · exact ⟨ma, mc, mcs, hLr.two.2.2.1, hMr, by have := hmd.out.n; omega⟩
      have hCu := Lib.hid hCu
      have hLx := hLr.lt
      obtain ⟨a1, a2, a3, a4, a5⟩ := h0r.two
      obtain ⟨b1, b2, b3, b4, b5⟩ := h2r.two
      have hLr := Lib.hid hLr
      have hMr := Lib.hid hMr
      have h0h := Lib.hid h0r
      have h2h := Lib.hid h2r
      have hP := Cel.new wr #[.int .i64 rn, .int .i64 rd, .int .i64 un, .int .i64 ud] 47
      have hgP : Gr wr (wr.alloc (.cells #[.int .i64 rn, .int .i64 rd, .int .i64 un, .int .i64 ud] 47)) := (Gr.refl wr).alloc _
      have hg3 := hg.trans hgP
      have hL3 := hLr.out.gr hgP
      have hM3 := hMr.out.gr hgP
      have h03 := h0h.out.gr hgP
      have h23 := h2h.out.gr hgP
      have hC3 := hCu.out.gr hgP
      clear h0r h2r
      go_wp2
      clear hgP hLr hMr hCu hcell hLx hg h0h h2h a1 a2 a3 a4 a5 b1 b2 b3 b4 b5
      generalize wr.alloc (.cells #[.int .i64 rn, .int .i64 rd, .int .i64 un, .int .i64 ud] 47) = V at *
      generalize wr.heap.size = G at *
      go_loopw [45] (fun k wr => ∃ jj : Nat, jj ≤ 2 ∧ k = .int .i64 jj ∧ Gr w wr ∧ Cel wr G [.int .i64 rn, .int .i64 rd, .int .i64 un, .int .i64 ud] ∧ Cel wr K [.slice ra rcs.length rc, .slice ma mcs.length mc] ∧ Cel wr w.heap.size [.int .i64 rn, .int .i64 rd] ∧ Cel wr (w.heap.size + 1 + 1) [.int .i64 un, .int .i64 ud] ∧ Cues wr (.slice ma mcs.length mc) mcs ∧ Cues wr (.slice ua cs.length uc) cs) (fun k _ => 2 - (RowKit.intOf k).toNat)
      case atStart => exact ⟨0, by omega, rfl, hg3, hP, hL3, h03, h23, hM3, hC3⟩
      case round =>
        obtain ⟨jj, hj, rfl, hg, hPr, hLr, h0r, h2r, hMr, hCr⟩ := hrel
        clear hP hg3 hL3 hM3 h03 h23 hC3
        by_cases cj : jj < 2
        · have q2 : decide ((jj : Int) < 2) = true := decide_eq_true (by omega)
          obtain ⟨kn, kd, n0, n1, hk1, hk2⟩ : ∃ kn kd : Int, wr.cell? ⟨G, jj * 2, none⟩ = some (.int .i64 kn) ∧ wr.cell? ⟨G, jj * 2 + 1, none⟩ = some (.int .i64 kd) ∧ I64 kn ∧ I64 kd := by
            rcases (show jj = 0 ∨ jj = 1 by omega) with rfl | rfl
            · exact ⟨rn, rd, (hPr.2 0 _ rfl).1, (hPr.2 1 _ rfl).1, hn, hd⟩
            · exact ⟨un, ud, (hPr.2 2 _ rfl).1, (hPr.2 3 _ rfl).1, hu1, hu2⟩
          obtain ⟨E, hE⟩ : ∃ E, foE kn kd cs = E := ⟨_, rfl⟩
          obtain ⟨S, hS⟩ : ∃ S : ByteArray, (⟨(foS kn kd cs).toArray⟩ : ByteArray) = S := ⟨_, rfl⟩
          have HF1 : Hid (∀ w', Gr w w' → Cues w' (.slice ua cs.length uc) cs → Calls Tryd.prog 27 #[.slice ua cs.length uc, .agg #[.int .i64 kn, .int .i64 kd]] w' fun e w'' => e = .returned (.tuple #[.string S, .int .i64 E]) ∧ Gr w' w'') := fun w' hg h => by rw [← hE, ← hS]; exact cformat_any _ cs kn kd w' h hk1 hk2 (Pow.gr hg hT) (by omega)
          have HF2 : Hid (∀ w', Gr w w' → Cues w' (.slice ua cs.length uc) cs → Calls Tryd.prog 28 #[.slice ua cs.length uc, .agg #[.int .i64 kn, .int .i64 kd]] w' fun e w'' => e = .returned (.tuple #[.string S, .int .i64 E]) ∧ Gr w' w'') := fun w' hg h => by rw [← hE, ← hS]; exact rformat_any _ cs kn kd w' h hk1 hk2 (Pow.gr hg hT) (by omega)
          have HPb : Hid (E = 0 → ∀ w', Gr w w' → Calls Tryd.prog 29 #[.string S, .agg #[.int .i64 kn, .int .i64 kd]] w' fun e w'' => ∃ lv cs2, e = .returned (.tuple #[lv, .int .i64 0]) ∧ Gr w' w'' ∧ Cues w'' lv cs2 ∧ cs2.map cAbs = cs.map cAbs) := fun h w' hg => by rw [← hS]; exact parse_back cs kn kd w' hk1 hk2 (hM.gr hg) (Pow.gr hg hT) (hE.trans h) hcn hCr.ok
          have HSm : Hid (∀ v1 v2 cs2 w', Cues w' v1 cs2 → Cues w' v2 cs → cs2.map cAbs = cs.map cAbs → Calls Tryd.prog 16 #[v1, v2] w' fun e w'' => e = .returned (.bool true) ∧ Gr w' w'') := fun v1 v2 cs2 w' h1 h2 h3 => by
            have := same_any v1 v2 cs2 cs w' h1 h2
            rw [decide_eq_true h3] at this
            exact this
          clear hE hS
          have q3 : (E != E) = false := by simp
          have q4 : (S.toList == S.toList) = true := by simp
          have hCh := Lib.hid hCr
          have hLx := hLr.lt
          have hPx := hPr.lt
          have hLr := Lib.hid hLr
          have hPr := Lib.hid hPr
          have hMr := Lib.hid hMr
          have h0r := Lib.hid h0r
          have h2r := Lib.hid h2r
          clear hCr
          by_cases hE0 : E = 0
          · have q5 : (E != 0) = false := by simp [hE0]
            have HPb := Lib.hid (HPb.out hE0)
            have hE0 := Lib.hid hE0
            go_wp2_with (first
              | (go_at_call 27; (with_reducible refine (HF1.out _ ?_ ?_).mono ?_); (· exact hg.alloc _); (· exact hCh.out.gr ((Gr.refl wr).alloc _)); rintro e w4 ⟨rfl, hg4⟩; have kX4 := (Cel.new wr #[.int .i64 kn, .int .i64 kd] 47).gr hg4; obtain ⟨d0, d1, d2, d3, d4⟩ := kX4.two)
              | (go_at_call 28; (with_reducible refine (HF2.out _ ?_ ?_).mono ?_); (· exact (hg.alloc _).trans hg4); (· exact hCh.out.gr (((Gr.refl wr).alloc _).trans hg4)); rintro e w5 ⟨rfl, hg5⟩; have kX5 := kX4.gr hg5; obtain ⟨e0, e1, e2, e3, e4⟩ := kX5.two)
              | (go_at_call 29; (with_reducible refine (HPb.out _ ?_).mono ?_); (· exact ((hg.alloc _).trans hg4).trans hg5); rintro e w6 ⟨lv, cs2, rfl, hg6, hC6, he6⟩; obtain ⟨p6, k6, rfl, hh6⟩ := hC6.at_.shape; clear hh6; have hC6 := Lib.hid hC6; have he6 := Lib.hid he6)
              | (go_at_call 16; (with_reducible refine (HSm.out _ _ cs2 _ hC6.out ?_ he6.out).mono ?_); (· exact hCh.out.gr ((((Gr.refl wr).alloc _).trans hg4).trans hg5 |>.trans hg6)); rintro e w7 ⟨rfl, hg7⟩))
            have hgB : Gr wr w7 := ((((Gr.refl wr).alloc _).trans hg4).trans hg5 |>.trans hg6).trans hg7
            go_roundw
            case rel => exact ⟨jj + 1, by omega, by go_num, hg.trans hgB, hPr.out.gr hgB, hLr.out.gr hgB, h0r.out.gr hgB, h2r.out.gr hgB, hMr.out.gr hgB, hCh.out.gr hgB⟩
            case measure => simp [RowKit.intOf]; omega
          · have q5 : (E != 0) = true := by simp [hE0]
            go_wp2_with (first
              | (go_at_call 27; (with_reducible refine (HF1.out _ ?_ ?_).mono ?_); (· exact hg.alloc _); (· exact hCh.out.gr ((Gr.refl wr).alloc _)); rintro e w4 ⟨rfl, hg4⟩; have kX4 := (Cel.new wr #[.int .i64 kn, .int .i64 kd] 47).gr hg4; obtain ⟨d0, d1, d2, d3, d4⟩ := kX4.two)
              | (go_at_call 28; (with_reducible refine (HF2.out _ ?_ ?_).mono ?_); (· exact (hg.alloc _).trans hg4); (· exact hCh.out.gr (((Gr.refl wr).alloc _).trans hg4)); rintro e w5 ⟨rfl, hg5⟩; have kX5 := kX4.gr hg5; obtain ⟨e0, e1, e2, e3, e4⟩ := kX5.two))
            have hgB : Gr wr w5 := (((Gr.refl wr).alloc _).trans hg4).trans hg5
            go_roundw
            case rel => exact ⟨jj + 1, by omega, by go_num, hg.trans hgB, hPr.out.gr hgB, hLr.out.gr hgB, h0r.out.gr hgB, h2r.out.gr hgB, hMr.out.gr hgB, hCh.out.gr hgB⟩
            case measure => simp [RowKit.intOf]; omega
        · have q2 : decide ((jj : Int) < 2) = false := decide_eq_false (by omega)
          have hLr := Lib.hid hLr
          have hMr := Lib.hid hMr
          have h0r := Lib.hid h0r
          have h2r := Lib.hid h2r
          clear hCr hPr
          go_wp2
          go_roundw
          case rel => exact ⟨kk + 1, by omega, by go_num, hg, hLr.out, h0r.out, h2r.out, hMr.out⟩
          case measure => simp [RowKit.intOf]; omega
    · have q1 : decide ((kk : Int) < 2) = false := decide_eq_false (by omega)
      clear hLr hMr h0r h2r
      go_wp2_with (go_at_call 17; (with_reducible refine (HW.out _ hg).mono ?_); rintro e w5 ⟨rfl, hg5⟩)
      go_ret
      exact ⟨rfl, (by repeat (first | with_reducible exact Gr.refl _ | with_reducible assumption | refine Gr.setCell ?_ (by first | omega | (simp; done) | (simp; omega)) _ | refine Gr.alloc ?_ _ | refine Gr.drew ?_ | refine Gr.drewN ?_ _ | refine Gr.trans ?_ (by with_reducible assumption)))⟩
end Go.Proofs.YtckmebfgianeoaaDoor
