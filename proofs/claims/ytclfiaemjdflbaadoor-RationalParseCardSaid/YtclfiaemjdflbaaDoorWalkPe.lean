/-
  Contract of Parse of the reference at the empty string.
  Conditions: none.
-/
import Derived.Test.YtclfiaemjdflbaaDoorWalkNu
namespace Go.Proofs.YtclfiaemjdflbaaDoor
open Go.RowKit Go.Lib
set_option linter.unusedSimpArgs false
set_option linter.unusedVariables false

set_option maxHeartbeats 1000000 in
theorem rparse_empty (w : World) : Calls Tryd.prog 15 #[.string ⟨#[]⟩] w fun e w' => e = .returned (.tuple #[.agg #[.int .i64 0, .int .i64 0], .int .i64 3]) ∧ Gr w w' := by
  have HN := Lib.hid (fun w => (by have := number_any ⟨#[]⟩ 0 w (by decide) (by decide); exact this : Calls Tryd.prog 31 #[.string ⟨#[]⟩, .int .i64 0] w fun e w' => e = .returned (.tuple #[.int .i64 0, .int .i64 0]) ∧ Gr w w'))
  go_enter Tryd.func15, Tryd.ntmps15
  go_wp2_with (go_at_call 31; with_reducible refine (HN.out _).mono ?_; rintro e w1 ⟨rfl, hg1⟩; obtain ⟨hc1, hf1⟩ := hg1.cells; have hz1 := hg1.size; (try simp at hz1); (try have hl1_0_0 : w.heap.size < w1.heap.size := by omega); (try have hm1_0_0 : w.heap.size ≤ w1.heap.size := by omega); (try have hl1_0_1 : w.heap.size + 1 < w1.heap.size := by omega); (try have hl1_0_2 : w.heap.size + 2 < w1.heap.size := by omega))
  have cF := ((((Cel.new w #[.int .i64 0, .int .i64 0] 23).gr hg1).set (k := 0) (by simp) (.int .i64 0)).set (k := 1) (by simp) (.int .i64 0)).alloc (.cells #[.int .i64 0, .int .i64 1] 23)
  obtain ⟨_, t0, t1, f0, f1⟩ := cF.two
  simp [bodyPost, results, Tryd.results15, go_sem, t0, t1]
  exact (by repeat (first | with_reducible exact Gr.refl _ | with_reducible assumption | refine Gr.setCell ?_ (by first | omega | (simp; done) | (simp; omega)) _ | refine Gr.alloc ?_ _ | refine Gr.drew ?_ | refine Gr.drewN ?_ _ | refine Gr.trans ?_ (by with_reducible assumption)))
end Go.Proofs.YtclfiaemjdflbaaDoor
