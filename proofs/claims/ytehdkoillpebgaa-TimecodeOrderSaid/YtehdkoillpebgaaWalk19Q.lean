/-
  Contract of Less of the reference.
  Conditions: none.
-/
import Derived.Test.YtehdkoillpebgaaWalk19A
namespace Go.Proofs.Ytehdkoillpebgaa
open Go.RowKit
set_option linter.unusedSimpArgs false
set_option linter.unusedVariables false

/-- the order of four numbers, the first one first -/
def lexB (x0 x1 x2 x3 y0 y1 y2 y3 : Int) : Bool := decide (x0 < y0 ∨ (x0 = y0 ∧ (x1 < y1 ∨ (x1 = y1 ∧ (x2 < y2 ∨ (x2 = y2 ∧ x3 < y3))))))

set_option maxRecDepth 100000 in
set_option maxHeartbeats 2000000 in
theorem less_any (x0 x1 x2 x3 x4 y0 y1 y2 y3 y4 : Int) (x5 y5 : Bool) (w : World) :
    Calls Try.prog 27 #[.agg #[.int .i64 x0, .int .i64 x1, .int .i64 x2, .int .i64 x3, .int .i64 x4, .bool x5], .agg #[.int .i64 y0, .int .i64 y1, .int .i64 y2, .int .i64 y3, .int .i64 y4, .bool y5]] w fun e w' => e = .returned (.bool (lexB x0 x1 x2 x3 y0 y1 y2 y3)) ∧ Gr w w' := by
  obtain ⟨L, hL⟩ : ∃ L, lexB x0 x1 x2 x3 y0 y1 y2 y3 = L := ⟨_, rfl⟩
  rw [hL]
  have H0 : Hid (x0 ≠ y0 → decide (x0 < y0) = L) := fun h => by rw [← hL]; unfold lexB; by_cases c : x0 < y0 <;> simp [h, c]
  have H1 : Hid (x0 = y0 → x1 ≠ y1 → decide (x1 < y1) = L) := fun h0 h => by rw [← hL]; unfold lexB; subst h0; by_cases c : x1 < y1 <;> simp [h, c]
  have H2 : Hid (x0 = y0 → x1 = y1 → x2 ≠ y2 → decide (x2 < y2) = L) := fun h0 h1 h => by rw [← hL]; unfold lexB; subst h0 h1; by_cases c : x2 < y2 <;> simp [h, c]
  have H3 : Hid (x0 = y0 → x1 = y1 → x2 = y2 → x3 ≠ y3 → decide (x3 < y3) = L) := fun h0 h1 h2 h => by rw [← hL]; unfold lexB; subst h0 h1 h2; by_cases c : x3 < y3 <;> simp [h, c]
  have H4 : Hid (x0 = y0 → x1 = y1 → x2 = y2 → x3 = y3 → false = L) := fun h0 h1 h2 h => by rw [← hL]; unfold lexB; subst h0 h1 h2 h; simp
  clear hL
  go_enter Try.func27, Try.ntmps27
  go_wp2
  go_loopw [7] (fun i wr => ∃ k : Nat, k ≤ 4 ∧ i = .int .i64 k ∧ Hid ((0 < k → x0 = y0) ∧ (1 < k → x1 = y1) ∧ (2 < k → x2 = y2) ∧ (3 < k → x3 = y3)) ∧ ∃ m, wr = ((((w.alloc (.cells #[.int .i64 x0, .int .i64 x1, .int .i64 x2, .int .i64 x3, .int .i64 x4, .bool x5] 34)).alloc (.cells #[.int .i64 y0, .int .i64 y1, .int .i64 y2, .int .i64 y3, .int .i64 y4, .bool y5] 34)).alloc (.cells #[.int .i64 x0, .int .i64 x1, .int .i64 x2, .int .i64 x3] 62)).alloc (.cells #[.int .i64 y0, .int .i64 y1, .int .i64 y2, .int .i64 y3] 62)).drewN m) (fun i _ => 4 - (intOf i).toNat)
  case atStart => exact ⟨0, by omega, rfl, ⟨fun h => absurd h (by omega), fun h => absurd h (by omega), fun h => absurd h (by omega), fun h => absurd h (by omega)⟩, 0, rfl⟩
  case round =>
    obtain ⟨k, hk, rfl, hno, m, rfl⟩ := hrel
    rcases (show k = 0 ∨ k = 1 ∨ k = 2 ∨ k = 3 ∨ k = 4 by omega) with rfl | rfl | rfl | rfl | rfl
    · by_cases c : x0 = y0
      · have c' : (x0 != y0) = false := by simpa using c
        have HN : Hid ((0 < 0 + 1 → x0 = y0) ∧ (1 < 0 + 1 → x1 = y1) ∧ (2 < 0 + 1 → x2 = y2) ∧ (3 < 0 + 1 → x3 = y3)) := by
          obtain ⟨a, b, d, e⟩ := hno.out
          refine ⟨fun h => ?_, fun h => ?_, fun h => ?_, fun h => ?_⟩ <;> first | exact c | (exact a (by omega)) | (exact b (by omega)) | (exact d (by omega)) | (exact e (by omega)) | (exfalso; omega)
        clear hno c
        go_wp2
        go_quiet (fail)
        go_wp2
        go_roundw
        case rel => exact ⟨0 + 1, by omega, rfl, HN, _, rfl⟩
        case measure => simp [intOf]
      · have c' : (x0 != y0) = true := by simpa using c
        have HV := Lib.hid (H0.out c)
        clear hno c
        go_wp2
        go_quiet (fail)
        go_wp2
        go_quiet (fail)
        go_wp2
        go_ret
        exact ⟨ret_bool HV.out, (by repeat (first | refine Gr.setCell ?_ (by first | omega | (simp; done) | (simp; omega)) _ | refine Gr.alloc ?_ _ | refine Gr.drew ?_ | refine Gr.drewN ?_ _ | with_reducible assumption | with_reducible exact Gr.refl _ | refine Gr.trans ?_ (by with_reducible assumption)))⟩
    · by_cases c : x1 = y1
      · have c' : (x1 != y1) = false := by simpa using c
        have HN : Hid ((0 < 1 + 1 → x0 = y0) ∧ (1 < 1 + 1 → x1 = y1) ∧ (2 < 1 + 1 → x2 = y2) ∧ (3 < 1 + 1 → x3 = y3)) := by
          obtain ⟨a, b, d, e⟩ := hno.out
          refine ⟨fun h => ?_, fun h => ?_, fun h => ?_, fun h => ?_⟩ <;> first | exact c | (exact a (by omega)) | (exact b (by omega)) | (exact d (by omega)) | (exact e (by omega)) | (exfalso; omega)
        clear hno c
        go_wp2
        go_quiet (fail)
        go_wp2
        go_roundw
        case rel => exact ⟨1 + 1, by omega, rfl, HN, _, rfl⟩
        case measure => simp [intOf]
      · have c' : (x1 != y1) = true := by simpa using c
        have HV := Lib.hid (H1.out (hno.out.1 (by omega)) c)
        clear hno c
        go_wp2
        go_quiet (fail)
        go_wp2
        go_quiet (fail)
        go_wp2
        go_ret
        exact ⟨ret_bool HV.out, (by repeat (first | refine Gr.setCell ?_ (by first | omega | (simp; done) | (simp; omega)) _ | refine Gr.alloc ?_ _ | refine Gr.drew ?_ | refine Gr.drewN ?_ _ | with_reducible assumption | with_reducible exact Gr.refl _ | refine Gr.trans ?_ (by with_reducible assumption)))⟩
    · by_cases c : x2 = y2
      · have c' : (x2 != y2) = false := by simpa using c
        have HN : Hid ((0 < 2 + 1 → x0 = y0) ∧ (1 < 2 + 1 → x1 = y1) ∧ (2 < 2 + 1 → x2 = y2) ∧ (3 < 2 + 1 → x3 = y3)) := by
          obtain ⟨a, b, d, e⟩ := hno.out
          refine ⟨fun h => ?_, fun h => ?_, fun h => ?_, fun h => ?_⟩ <;> first | exact c | (exact a (by omega)) | (exact b (by omega)) | (exact d (by omega)) | (exact e (by omega)) | (exfalso; omega)
        clear hno c
        go_wp2
        go_quiet (fail)
        go_wp2
        go_roundw
        case rel => exact ⟨2 + 1, by omega, rfl, HN, _, rfl⟩
        case measure => simp [intOf]
      · have c' : (x2 != y2) = true := by simpa using c
        have HV := Lib.hid (H2.out (hno.out.1 (by omega)) (hno.out.2.1 (by omega)) c)
        clear hno c
        go_wp2
        go_quiet (fail)
        go_wp2
        go_quiet (fail)
        go_wp2
        go_ret
        exact ⟨ret_bool HV.out, (by repeat (first | refine Gr.setCell ?_ (by first | omega | (simp; done) | (simp; omega)) _ | refine Gr.alloc ?_ _ | refine Gr.drew ?_ | refine Gr.drewN ?_ _ | with_reducible assumption | with_reducible exact Gr.refl _ | refine Gr.trans ?_ (by with_reducible assumption)))⟩
    · by_cases c : x3 = y3
      · have c' : (x3 != y3) = false := by simpa using c
        have HN : Hid ((0 < 3 + 1 → x0 = y0) ∧ (1 < 3 + 1 → x1 = y1) ∧ (2 < 3 + 1 → x2 = y2) ∧ (3 < 3 + 1 → x3 = y3)) := by
          obtain ⟨a, b, d, e⟩ := hno.out
          refine ⟨fun h => ?_, fun h => ?_, fun h => ?_, fun h => ?_⟩ <;> first | exact c | (exact a (by omega)) | (exact b (by omega)) | (exact d (by omega)) | (exact e (by omega)) | (exfalso; omega)
        clear hno c
        go_wp2
        go_quiet (fail)
        go_wp2
        go_roundw
        case rel => exact ⟨3 + 1, by omega, rfl, HN, _, rfl⟩
        case measure => simp [intOf]
      · have c' : (x3 != y3) = true := by simpa using c
        have HV := Lib.hid (H3.out (hno.out.1 (by omega)) (hno.out.2.1 (by omega)) (hno.out.2.2.1 (by omega)) c)
        clear hno c
        go_wp2
        go_quiet (fail)
        go_wp2
        go_quiet (fail)
        go_wp2
        go_ret
        exact ⟨ret_bool HV.out, (by repeat (first | refine Gr.setCell ?_ (by first | omega | (simp; done) | (simp; omega)) _ | refine Gr.alloc ?_ _ | refine Gr.drew ?_ | refine Gr.drewN ?_ _ | with_reducible assumption | with_reducible exact Gr.refl _ | refine Gr.trans ?_ (by with_reducible assumption)))⟩
    · have HV := Lib.hid (H4.out (hno.out.1 (by omega)) (hno.out.2.1 (by omega)) (hno.out.2.2.1 (by omega)) (hno.out.2.2.2 (by omega)))
      go_wp2
      go_ret
      exact ⟨ret_bool HV.out, (by repeat (first | refine Gr.setCell ?_ (by first | omega | (simp; done) | (simp; omega)) _ | refine Gr.alloc ?_ _ | refine Gr.drew ?_ | refine Gr.drewN ?_ _ | with_reducible assumption | with_reducible exact Gr.refl _ | refine Gr.trans ?_ (by with_reducible assumption)))⟩
end Go.Proofs.Ytehdkoillpebgaa
