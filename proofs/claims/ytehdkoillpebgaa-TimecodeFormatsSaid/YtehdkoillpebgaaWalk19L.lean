/-
  Contracts joined: Number of both sides, Format of the program; the sanity check.
  Conditions: the arguments are integers of their kinds.
-/
import Derived.Test.YtehdkoillpebgaaWalk19I
import Derived.Test.YtehdkoillpebgaaWalk19K
import Derived.Test.YtehdkoillpebgaaWalk19D
namespace Go.Proofs.Ytehdkoillpebgaa
open Go.RowKit
set_option linter.unusedSimpArgs false
set_option linter.unusedVariables false

theorem number_any (h m s f b : Int) (d : Bool) (w : World) :
    Calls Try.prog 25 #[.agg #[.int .i64 h, .int .i64 m, .int .i64 s, .int .i64 f, .int .i64 b, .bool d]] w fun e w' => e = .returned (.tuple #[.int .i64 (nmV h m s f b d), .int .i64 (nmE h m s f b d)]) ∧ Gr w w' := by
  by_cases ho : okB b d = true
  · by_cases hi : inN h m s f b = true
    · exact number_in h m s f b d w ho hi
    · have hi : inN h m s f b = false := by simpa using hi
      have e1 : nmV h m s f b d = 0 := by unfold nmV; rw [ho, hi]; rfl
      have e2 : nmE h m s f b d = 2 := by unfold nmE; rw [ho, hi]; rfl
      rw [e1, e2]
      exact number_out h m s f b d w ho hi
  · have ho : okB b d = false := by simpa using ho
    have e1 : nmV h m s f b d = 0 := by unfold nmV; rw [ho]; rfl
    have e2 : nmE h m s f b d = 1 := by unfold nmE; rw [ho]; rfl
    rw [e1, e2]
    exact number_no h m s f b d w ho
theorem rnumber_any (h m s f b : Int) (d : Bool) (w : World) :
    Calls Try.prog 26 #[.agg #[.int .i64 h, .int .i64 m, .int .i64 s, .int .i64 f, .int .i64 b, .bool d]] w fun e w' => e = .returned (.tuple #[.int .i64 (nmV h m s f b d), .int .i64 (nmE h m s f b d)]) ∧ Gr w w' := by
  by_cases ho : okB b d = true
  · by_cases hi : inN h m s f b = true
    · exact rnumber_in h m s f b d w ho hi
    · have hi : inN h m s f b = false := by simpa using hi
      have e1 : nmV h m s f b d = 0 := by unfold nmV; rw [ho, hi]; rfl
      have e2 : nmE h m s f b d = 2 := by unfold nmE; rw [ho, hi]; rfl
      rw [e1, e2]
      exact rnumber_out h m s f b d w ho hi
  · have ho : okB b d = false := by simpa using ho
    have e1 : nmV h m s f b d = 0 := by unfold nmV; rw [ho]; rfl
    have e2 : nmE h m s f b d = 1 := by unfold nmE; rw [ho]; rfl
    rw [e1, e2]
    exact rnumber_no h m s f b d w ho
theorem nmE_cases (h m s f b : Int) (d : Bool) : (nmE h m s f b d = 0 ∧ okB b d = true ∧ inN h m s f b = true ∧ miss h m s f b d = false ∧ nmV h m s f b d = numN h m s f b d) ∨ ((nmE h m s f b d = 1 ∨ nmE h m s f b d = 2) ∧ nmV h m s f b d = 0) := by
  unfold nmE nmV
  cases okB b d <;> cases inN h m s f b <;> cases miss h m s f b d <;> simp
/-- the text, where there is one -/
def fmV (h m s f b : Int) (d : Bool) : ByteArray := if nmE h m s f b d = 0 then fmtS h m s f d else ByteArray.empty
theorem format_any (h m s f b : Int) (d : Bool) (w : World) :
    Calls Try.prog 30 #[.agg #[.int .i64 h, .int .i64 m, .int .i64 s, .int .i64 f, .int .i64 b, .bool d]] w fun e w' => e = .returned (.tuple #[.string (fmV h m s f b d), .int .i64 (nmE h m s f b d)]) ∧ Gr w w' := by
  have H := fun w => number_any h m s f b d w
  unfold fmV
  rcases nmE_cases h m s f b d with ⟨e0, ho, hi, hm, e1⟩ | ⟨e0, e1⟩
  · obtain ⟨p1, p2, p3, p4⟩ := inN_out hi
    have hb := okB_bounds ho
    rw [e0] at H ⊢
    exact format_yes h m s f b _ d w (by omega) (by omega) (by omega) (by omega) H
  · rw [e1] at H
    rw [if_neg (by omega)]
    exact format_no h m s f b d _ w e0 H

theorem awake_any (w : World) : Calls Try.prog 20 #[] w fun e w' => e = .returned (.bool true) ∧ Gr w w' := by
  have o1 : okB 30 true = true := by decide
  have l1 : lm 1800 30 true = 1 := by decide +kernel
  have l2 : lf 1800 30 true = 2 := by decide +kernel
  have d1 : dayN 30 true = 2589408 := by decide +kernel
  have n1 : nmE 0 1 0 2 30 true = 0 := by decide +kernel
  have f1 : fmV 0 1 0 2 30 true = { data := #[48, 48, 58, 48, 49, 58, 48, 48, 59, 48, 50] } := by unfold fmV; rw [n1]; rfl
  have b1 : bsV 30000 1001 = 30 := by decide +kernel
  have b2 : bsE 30000 1001 = 0 := by decide +kernel
  have HL := Lib.hid (fun w => label_any 1800 30 true w (by unfold I64; omega) o1)
  have HF := Lib.hid (fun w => format_any 0 1 0 2 30 true w)
  have HB := Lib.hid (fun w => base_any 30000 1001 w (by unfold I64; omega) (by unfold I64; omega))
  have HD := Lib.hid (fun w => day_yes 30 true w o1)
  rw [l1, l2] at HL
  rw [f1, n1] at HF
  rw [b1, b2] at HB
  rw [d1] at HD
  clear o1 l1 l2 d1 n1 f1 b1 b2
  go_enter Try.func20, Try.ntmps20
  go_wp2_with (first
    | (go_at_call 23; refine (HL.out _).mono ?_; rintro e w1 ⟨rfl, hg1⟩; obtain ⟨hc1, hf1⟩ := hg1.cells; have hz1 := hg1.size; (try simp at hz1); (try have hl1_0_0 : w.heap.size < w1.heap.size := by omega); (try have hm1_0_0 : w.heap.size ≤ w1.heap.size := by omega); (try have hl1_0_1 : w.heap.size + 1 < w1.heap.size := by omega); (try have hl1_0_2 : w.heap.size + 2 < w1.heap.size := by omega))
    | (go_at_call 30; refine (HF.out _).mono ?_; rintro e w2 ⟨rfl, hg2⟩; obtain ⟨hc2, hf2⟩ := hg2.cells; have hz2 := hg2.size; (try simp at hz2); (try have hl2_0_0 : w.heap.size < w2.heap.size := by omega); (try have hm2_0_0 : w.heap.size ≤ w2.heap.size := by omega); (try have hl2_0_1 : w.heap.size + 1 < w2.heap.size := by omega); (try have hl2_0_2 : w.heap.size + 2 < w2.heap.size := by omega); (try have hl2_1_0 : w1.heap.size < w2.heap.size := by omega); (try have hm2_1_0 : w1.heap.size ≤ w2.heap.size := by omega); (try have hl2_1_1 : w1.heap.size + 1 < w2.heap.size := by omega); (try have hl2_1_2 : w1.heap.size + 2 < w2.heap.size := by omega))
    | (go_at_call 17; refine (HB.out _).mono ?_; rintro e w3 ⟨rfl, hg3⟩; obtain ⟨hc3, hf3⟩ := hg3.cells; have hz3 := hg3.size; (try simp at hz3); (try have hl3_0_0 : w.heap.size < w3.heap.size := by omega); (try have hm3_0_0 : w.heap.size ≤ w3.heap.size := by omega); (try have hl3_0_1 : w.heap.size + 1 < w3.heap.size := by omega); (try have hl3_0_2 : w.heap.size + 2 < w3.heap.size := by omega); (try have hl3_1_0 : w1.heap.size < w3.heap.size := by omega); (try have hm3_1_0 : w1.heap.size ≤ w3.heap.size := by omega); (try have hl3_1_1 : w1.heap.size + 1 < w3.heap.size := by omega); (try have hl3_1_2 : w1.heap.size + 2 < w3.heap.size := by omega); (try have hl3_2_0 : w2.heap.size < w3.heap.size := by omega); (try have hm3_2_0 : w2.heap.size ≤ w3.heap.size := by omega); (try have hl3_2_1 : w2.heap.size + 1 < w3.heap.size := by omega); (try have hl3_2_2 : w2.heap.size + 2 < w3.heap.size := by omega))
    | (go_at_call 21; refine (HD.out _).mono ?_; rintro e w' ⟨rfl, rfl⟩))
  go_ret
  exact ⟨ret_bool rfl, (by repeat (first | refine Gr.setCell ?_ (by first | omega | (simp; done) | (simp; omega)) _ | refine Gr.alloc ?_ _ | refine Gr.drew ?_ | refine Gr.drewN ?_ _ | with_reducible assumption | with_reducible exact Gr.refl _ | refine Gr.trans ?_ (by with_reducible assumption)))⟩
end Go.Proofs.Ytehdkoillpebgaa
