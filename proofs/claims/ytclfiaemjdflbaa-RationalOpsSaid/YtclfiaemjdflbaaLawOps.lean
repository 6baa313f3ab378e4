/-
  Walk of the law RationalOps: it returns true.
  Conditions: none beyond the kinds of the arguments.
-/
import Derived.Test.YtclfiaemjdflbaaWalkZ
import Derived.Test.YtclfiaemjdflbaaWalkI
import Derived.Test.YtclfiaemjdflbaaCel
namespace Go.Proofs.Ytclfiaemjdflbaa
open Go.RowKit
set_option linter.unusedSimpArgs false
set_option linter.unusedVariables false

set_option maxRecDepth 100000 in
set_option maxHeartbeats 4000000 in
theorem lawOps_walk (an ad bn bd : Int) (w : World) (hA : I64 an) (hB : I64 ad) (hC : I64 bn) (hD : I64 bd) :
    Calls Try.prog 10 #[.agg #[.int .i64 an, .int .i64 ad], .agg #[.int .i64 bn, .int .i64 bd]] w fun e w' => e = .returned (.bool true) ∧ Gr w w' := by
  have P1 := fun w => add_any an ad bn bd w hA hB hC hD
  have Q1 := fun w => radd_any an ad bn bd w hA hB hC hD
  unfold arV at P1 Q1
  have P2 := fun w => sub_any an ad bn bd w hA hB hC hD
  have Q2 := fun w => rsub_any an ad bn bd w hA hB hC hD
  unfold arV at P2 Q2
  have P3 := fun w => mul_any an ad bn bd w hA hB hC hD
  have Q3 := fun w => rmul_any an ad bn bd w hA hB hC hD
  unfold arV at P3 Q3
  have P4 := fun w => div_any an ad bn bd w hA hB hC hD
  have Q4 := fun w => rdiv_any an ad bn bd w hA hB hC hD
  unfold arV at P4 Q4
  generalize arN (vB an ad&&vB bn bd) (an*bd+bn*ad) (ad*bd) = x1 at *
  generalize arD (vB an ad&&vB bn bd) (an*bd+bn*ad) (ad*bd) = y1 at *
  generalize arE (vB an ad&&vB bn bd) (an*bd+bn*ad) (ad*bd) = z1 at *
  generalize arN (vB an ad&&vB bn bd) (an*bd+-bn*ad) (ad*bd) = x2 at *
  generalize arD (vB an ad&&vB bn bd) (an*bd+-bn*ad) (ad*bd) = y2 at *
  generalize arE (vB an ad&&vB bn bd) (an*bd+-bn*ad) (ad*bd) = z2 at *
  generalize arN (vB an ad&&vB bn bd) (an*bn) (ad*bd) = x3 at *
  generalize arD (vB an ad&&vB bn bd) (an*bn) (ad*bd) = y3 at *
  generalize arE (vB an ad&&vB bn bd) (an*bn) (ad*bd) = z3 at *
  generalize arN (vB an ad&&vB bn bd&&decide (bn ≠ 0)) (dvX an bn bd) (dvY ad bn) = x4 at *
  generalize arD (vB an ad&&vB bn bd&&decide (bn ≠ 0)) (dvX an bn bd) (dvY ad bn) = y4 at *
  generalize arE (vB an ad&&vB bn bd&&decide (bn ≠ 0)) (dvX an bn bd) (dvY ad bn) = z4 at *
  have P1 := Lib.hid P1
  have Q1 := Lib.hid Q1
  have P2 := Lib.hid P2
  have Q2 := Lib.hid Q2
  have P3 := Lib.hid P3
  have Q3 := Lib.hid Q3
  have P4 := Lib.hid P4
  have Q4 := Lib.hid Q4
  clear hA hB hC hD
  go_enter Try.func10, Try.ntmps10
  go_wp2_with (go_at_call 31; with_reducible refine (P1.out _).mono ?_; rintro e w1 ⟨rfl, hg1⟩; obtain ⟨hc1, hf1⟩ := hg1.cells; have hz1 := hg1.size; (try simp at hz1); (try have hl1_0_0 : w.heap.size < w1.heap.size := by omega); (try have hm1_0_0 : w.heap.size ≤ w1.heap.size := by omega); (try have hl1_0_1 : w.heap.size + 1 < w1.heap.size := by omega); (try have hl1_0_2 : w.heap.size + 2 < w1.heap.size := by omega))
  obtain ⟨G, hG⟩ : ∃ G, w1.heap.size = G := ⟨_, rfl⟩
  have cG : Cel (w1.alloc (.cells #[.int .i64 x1, .int .i64 y1] 23)) G [.int .i64 x1, .int .i64 y1] := by rw [← hG]; exact Cel.new w1 _ _
  rw [hG]
  refine (Q1.out _).mono ?_
  rintro e w2 ⟨rfl, hg2⟩
  have cG2 := cG.gr hg2
  obtain ⟨hxG, hyG0, hyG1, hvG0, hvG1⟩ := cG2.two
  have hz1 := hg1.size
  have hz2 := hg2.size
  simp at hz1 hz2
  have gb2 : Gr ((w.alloc (.cells #[.int .i64 an, .int .i64 ad] 23)).alloc (.cells #[.int .i64 bn, .int .i64 bd] 23)) w2 := (by repeat (first | with_reducible exact Gr.refl _ | with_reducible assumption | refine Gr.setCell ?_ (by first | omega | (simp; done) | (simp; omega)) _ | refine Gr.alloc ?_ _ | refine Gr.drew ?_ | refine Gr.drewN ?_ _ | refine Gr.trans ?_ (by with_reducible assumption)))
  obtain ⟨hcb, hfb⟩ := gb2.cells
  have hs0 : w.heap.size < w2.heap.size := by omega
  have hs1 : w.heap.size + 1 < w2.heap.size := by omega
  have hGl : w.heap.size + 1 < G := by omega
  clear hG hz1
  go_wp2_with fail
  obtain ⟨H, hH⟩ : ∃ H, w2.heap.size = H := ⟨_, rfl⟩
  have cH : Cel (w2.alloc (.cells #[.int .i64 x1, .int .i64 y1] 23)) H [.int .i64 x1, .int .i64 y1] := by rw [← hH]; exact Cel.new w2 _ _
  have nGH : G ≠ H := by omega
  have nHG : H ≠ G := by omega
  have hHl : w.heap.size + 1 < H := by omega
  have nA1 : G ≠ w.heap.size := by omega
  have nA2 : G ≠ w.heap.size + 1 := by omega
  have nA3 : H ≠ w.heap.size := by omega
  have nA4 : H ≠ w.heap.size + 1 := by omega
  rw [hH]
  have cG := cG2.alloc (.cells #[.int .i64 x1, .int .i64 y1] 23)
  have gb : Gr ((w.alloc (.cells #[.int .i64 an, .int .i64 ad] 23)).alloc (.cells #[.int .i64 bn, .int .i64 bd] 23)) (w2.alloc (.cells #[.int .i64 x1, .int .i64 y1] 23)) := gb2.alloc _
  clear cG2 hxG hyG0 hyG1 hvG0 hvG1 hcb hfb hs0 hs1 hc1 hf1 hg1 hg2 gb2
  refine (P2.out _).mono ?_
  rintro e u2 ⟨rfl, hga⟩
  have cGa := cG.gr hga
  have cHa := cH.gr hga
  have gba := gb.trans hga
  obtain ⟨hxG, hyG0, hyG1, hvG0, hvG1⟩ := cGa.two
  obtain ⟨hxH, hyH0, hyH1, hvH0, hvH1⟩ := cHa.two
  obtain ⟨hcb, hfb⟩ := gba.cells
  have hs0 : w.heap.size < u2.heap.size := by omega
  have hs1 : w.heap.size + 1 < u2.heap.size := by omega
  go_wp2_with fail
  have cGa' := (cGa.set (k := 0) (by simp) (.int .i64 x2)).set (k := 1) (by simp) (.int .i64 y2)
  have cHa' := (cHa.other (p := ⟨G, 0, none⟩) nGH (.int .i64 x2)).other (p := ⟨G, 1, none⟩) nGH (.int .i64 y2)
  have gba' := (gba.setCell (p := ⟨G, 0, none⟩) (by simp; omega) (.int .i64 x2)).setCell (p := ⟨G, 1, none⟩) (by simp; omega) (.int .i64 y2)
  clear cGa cHa gba cG cH gb hxG hyG0 hyG1 hvG0 hvG1 hxH hyH0 hyH1 hvH0 hvH1 hcb hfb hs0 hs1
  refine (Q2.out _).mono ?_
  rintro e v2 ⟨rfl, hgb⟩
  have cGb := cGa'.gr hgb
  have cHb := cHa'.gr hgb
  have gbb := gba'.trans hgb
  obtain ⟨hxG, hyG0, hyG1, hvG0, hvG1⟩ := cGb.two
  obtain ⟨hxH, hyH0, hyH1, hvH0, hvH1⟩ := cHb.two
  obtain ⟨hcb, hfb⟩ := gbb.cells
  have hs0 : w.heap.size < v2.heap.size := by omega
  have hs1 : w.heap.size + 1 < v2.heap.size := by omega
  go_wp2_with fail
  have cG := (cGb.other (p := ⟨H, 0, none⟩) nHG (.int .i64 x2)).other (p := ⟨H, 1, none⟩) nHG (.int .i64 y2)
  have cH := (cHb.set (k := 0) (by simp) (.int .i64 x2)).set (k := 1) (by simp) (.int .i64 y2)
  have gb := (gbb.setCell (p := ⟨H, 0, none⟩) (by simp; omega) (.int .i64 x2)).setCell (p := ⟨H, 1, none⟩) (by simp; omega) (.int .i64 y2)
  clear cGb cHb gbb cGa' cHa' gba' hga hgb hxG hyG0 hyG1 hvG0 hvG1 hxH hyH0 hyH1 hvH0 hvH1 hcb hfb hs0 hs1
  refine (P3.out _).mono ?_
  rintro e u3 ⟨rfl, hga⟩
  have cGa := cG.gr hga
  have cHa := cH.gr hga
  have gba := gb.trans hga
  obtain ⟨hxG, hyG0, hyG1, hvG0, hvG1⟩ := cGa.two
  obtain ⟨hxH, hyH0, hyH1, hvH0, hvH1⟩ := cHa.two
  obtain ⟨hcb, hfb⟩ := gba.cells
  have hs0 : w.heap.size < u3.heap.size := by omega
  have hs1 : w.heap.size + 1 < u3.heap.size := by omega
  go_wp2_with fail
  have cGa' := (cGa.set (k := 0) (by simp) (.int .i64 x3)).set (k := 1) (by simp) (.int .i64 y3)
  have cHa' := (cHa.other (p := ⟨G, 0, none⟩) nGH (.int .i64 x3)).other (p := ⟨G, 1, none⟩) nGH (.int .i64 y3)
  have gba' := (gba.setCell (p := ⟨G, 0, none⟩) (by simp; omega) (.int .i64 x3)).setCell (p := ⟨G, 1, none⟩) (by simp; omega) (.int .i64 y3)
  clear cGa cHa gba cG cH gb hxG hyG0 hyG1 hvG0 hvG1 hxH hyH0 hyH1 hvH0 hvH1 hcb hfb hs0 hs1
  refine (Q3.out _).mono ?_
  rintro e v3 ⟨rfl, hgb⟩
  have cGb := cGa'.gr hgb
  have cHb := cHa'.gr hgb
  have gbb := gba'.trans hgb
  obtain ⟨hxG, hyG0, hyG1, hvG0, hvG1⟩ := cGb.two
  obtain ⟨hxH, hyH0, hyH1, hvH0, hvH1⟩ := cHb.two
  obtain ⟨hcb, hfb⟩ := gbb.cells
  have hs0 : w.heap.size < v3.heap.size := by omega
  have hs1 : w.heap.size + 1 < v3.heap.size := by omega
  go_wp2_with fail
  have cG := (cGb.other (p := ⟨H, 0, none⟩) nHG (.int .i64 x3)).other (p := ⟨H, 1, none⟩) nHG (.int .i64 y3)
  have cH := (cHb.set (k := 0) (by simp) (.int .i64 x3)).set (k := 1) (by simp) (.int .i64 y3)
  have gb := (gbb.setCell (p := ⟨H, 0, none⟩) (by simp; omega) (.int .i64 x3)).setCell (p := ⟨H, 1, none⟩) (by simp; omega) (.int .i64 y3)
  clear cGb cHb gbb cGa' cHa' gba' hga hgb hxG hyG0 hyG1 hvG0 hvG1 hxH hyH0 hyH1 hvH0 hvH1 hcb hfb hs0 hs1
  refine (P4.out _).mono ?_
  rintro e u4 ⟨rfl, hga⟩
  have cGa := cG.gr hga
  have cHa := cH.gr hga
  have gba := gb.trans hga
  obtain ⟨hxG, hyG0, hyG1, hvG0, hvG1⟩ := cGa.two
  obtain ⟨hxH, hyH0, hyH1, hvH0, hvH1⟩ := cHa.two
  obtain ⟨hcb, hfb⟩ := gba.cells
  have hs0 : w.heap.size < u4.heap.size := by omega
  have hs1 : w.heap.size + 1 < u4.heap.size := by omega
  go_wp2_with fail
  have cGa' := (cGa.set (k := 0) (by simp) (.int .i64 x4)).set (k := 1) (by simp) (.int .i64 y4)
  have cHa' := (cHa.other (p := ⟨G, 0, none⟩) nGH (.int .i64 x4)).other (p := ⟨G, 1, none⟩) nGH (.int .i64 y4)
  have gba' := (gba.setCell (p := ⟨G, 0, none⟩) (by simp; omega) (.int .i64 x4)).setCell (p := ⟨G, 1, none⟩) (by simp; omega) (.int .i64 y4)
  clear cGa cHa gba cG cH gb hxG hyG0 hyG1 hvG0 hvG1 hxH hyH0 hyH1 hvH0 hvH1 hcb hfb hs0 hs1
  refine (Q4.out _).mono ?_
  rintro e v4 ⟨rfl, hgb⟩
  have cGb := cGa'.gr hgb
  have cHb := cHa'.gr hgb
  have gbb := gba'.trans hgb
  obtain ⟨hxG, hyG0, hyG1, hvG0, hvG1⟩ := cGb.two
  obtain ⟨hxH, hyH0, hyH1, hvH0, hvH1⟩ := cHb.two
  obtain ⟨hcb, hfb⟩ := gbb.cells
  have hs0 : w.heap.size < v4.heap.size := by omega
  have hs1 : w.heap.size + 1 < v4.heap.size := by omega
  go_wp2_with fail
  have cG := (cGb.other (p := ⟨H, 0, none⟩) nHG (.int .i64 x4)).other (p := ⟨H, 1, none⟩) nHG (.int .i64 y4)
  have cH := (cHb.set (k := 0) (by simp) (.int .i64 x4)).set (k := 1) (by simp) (.int .i64 y4)
  have gb := (gbb.setCell (p := ⟨H, 0, none⟩) (by simp; omega) (.int .i64 x4)).setCell (p := ⟨H, 1, none⟩) (by simp; omega) (.int .i64 y4)
  clear cGb cHb gbb cGa' cHa' gba' hga hgb hxG hyG0 hyG1 hvG0 hvG1 hxH hyH0 hyH1 hvH0 hvH1 hcb hfb hs0 hs1
  refine (awake_any _).mono ?_
  rintro e w9 ⟨rfl, hg9⟩
  obtain ⟨hxG, hyG0, hyG1, hvG0, hvG1⟩ := (cG.gr hg9).two
  obtain ⟨hxH, hyH0, hyH1, hvH0, hvH1⟩ := (cH.gr hg9).two
  go_wp2_with fail
  go_ret
  exact ⟨ret_bool rfl, (((Gr.refl w).alloc _).alloc _).trans (gb.trans hg9)⟩
end Go.Proofs.Ytclfiaemjdflbaa
