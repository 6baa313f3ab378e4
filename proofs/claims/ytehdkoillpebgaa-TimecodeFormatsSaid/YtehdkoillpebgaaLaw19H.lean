/-
  Walk of the law TimecodeFormats: it returns true.
  Conditions: none beyond the kinds of the arguments.
-/
import Derived.Test.YtehdkoillpebgaaWalk19R
import Derived.Test.YtehdkoillpebgaaWalk19S
namespace Go.Proofs.Ytehdkoillpebgaa
open Go.RowKit
set_option linter.unusedSimpArgs false
set_option linter.unusedVariables false

theorem fmtS_size (h m s f : Int) (d : Bool) : (fmtS h m s f d).size = 11 := rfl
theorem parse_yes_plain (h m s f b V : Int) (w : World) (hb : isB b = true) (h1 : 0 ≤ h ∧ h < 60) (h2 : 0 ≤ m ∧ m < 60) (h3 : 0 ≤ s ∧ s < 60) (h4 : 0 ≤ f ∧ f < 60)
    (H : ∀ w, Calls Try.prog 25 #[.agg #[.int .i64 h, .int .i64 m, .int .i64 s, .int .i64 f, .int .i64 b, .bool false]] w fun e w' => e = .returned (.tuple #[.int .i64 V, .int .i64 0]) ∧ Gr w w') :
    Calls Try.prog 32 #[.string (fmtS h m s f false), .int .i64 b] w fun e w' => e = .returned (.tuple #[.agg #[.int .i64 h, .int .i64 m, .int .i64 s, .int .i64 f, .int .i64 b, .bool false], .int .i64 0]) ∧ Gr w w' := by
  have z := fmtS_size h m s f false
  have g0 : (((fmtS h m s f false)[0]'(by omega)).toNat : Int) = 48 + h / 10 := fmt_byte (x := 48 + h / 10) (by omega) (by omega)
  have g1 : (((fmtS h m s f false)[1]'(by omega)).toNat : Int) = 48 + h % 10 := fmt_byte (x := 48 + h % 10) (by omega) (by omega)
  have g2 : (((fmtS h m s f false)[2]'(by omega)).toNat : Int) = 58 := rfl
  have g3 : (((fmtS h m s f false)[3]'(by omega)).toNat : Int) = 48 + m / 10 := fmt_byte (x := 48 + m / 10) (by omega) (by omega)
  have g4 : (((fmtS h m s f false)[4]'(by omega)).toNat : Int) = 48 + m % 10 := fmt_byte (x := 48 + m % 10) (by omega) (by omega)
  have g5 : (((fmtS h m s f false)[5]'(by omega)).toNat : Int) = 58 := rfl
  have g6 : (((fmtS h m s f false)[6]'(by omega)).toNat : Int) = 48 + s / 10 := fmt_byte (x := 48 + s / 10) (by omega) (by omega)
  have g7 : (((fmtS h m s f false)[7]'(by omega)).toNat : Int) = 48 + s % 10 := fmt_byte (x := 48 + s % 10) (by omega) (by omega)
  have g8 : (((fmtS h m s f false)[8]'(by omega)).toNat : Int) = 58 := rfl
  have g9 : (((fmtS h m s f false)[9]'(by omega)).toNat : Int) = 48 + f / 10 := fmt_byte (x := 48 + f / 10) (by omega) (by omega)
  have g10 : (((fmtS h m s f false)[10]'(by omega)).toNat : Int) = 48 + f % 10 := fmt_byte (x := 48 + f % 10) (by omega) (by omega)
  have e0 : ((((fmtS h m s f false)[0]'(by omega)).toNat : Int) - 48) * 10 + ((((fmtS h m s f false)[1]'(by omega)).toNat : Int) - 48) = h := by omega
  have e1 : ((((fmtS h m s f false)[3]'(by omega)).toNat : Int) - 48) * 10 + ((((fmtS h m s f false)[4]'(by omega)).toNat : Int) - 48) = m := by omega
  have e2 : ((((fmtS h m s f false)[6]'(by omega)).toNat : Int) - 48) * 10 + ((((fmtS h m s f false)[7]'(by omega)).toNat : Int) - 48) = s := by omega
  have e3 : ((((fmtS h m s f false)[9]'(by omega)).toNat : Int) - 48) * 10 + ((((fmtS h m s f false)[10]'(by omega)).toNat : Int) - 48) = f := by omega
  have key := parse_plain (fmtS h m s f false) b V w hb z (by omega) (by omega) (by omega) (by omega) (by omega) (by omega) (by omega) (by omega) g2 g5 g8
  rw [e0, e1, e2, e3] at key
  exact key H
theorem parse_yes_drop (h m s f b V : Int) (w : World) (hb : isB b = true) (h1 : 0 ≤ h ∧ h < 60) (h2 : 0 ≤ m ∧ m < 60) (h3 : 0 ≤ s ∧ s < 60) (h4 : 0 ≤ f ∧ f < 60)
    (H : ∀ w, Calls Try.prog 25 #[.agg #[.int .i64 h, .int .i64 m, .int .i64 s, .int .i64 f, .int .i64 b, .bool true]] w fun e w' => e = .returned (.tuple #[.int .i64 V, .int .i64 0]) ∧ Gr w w') :
    Calls Try.prog 32 #[.string (fmtS h m s f true), .int .i64 b] w fun e w' => e = .returned (.tuple #[.agg #[.int .i64 h, .int .i64 m, .int .i64 s, .int .i64 f, .int .i64 b, .bool true], .int .i64 0]) ∧ Gr w w' := by
  have z := fmtS_size h m s f true
  have g0 : (((fmtS h m s f true)[0]'(by omega)).toNat : Int) = 48 + h / 10 := fmt_byte (x := 48 + h / 10) (by omega) (by omega)
  have g1 : (((fmtS h m s f true)[1]'(by omega)).toNat : Int) = 48 + h % 10 := fmt_byte (x := 48 + h % 10) (by omega) (by omega)
  have g2 : (((fmtS h m s f true)[2]'(by omega)).toNat : Int) = 58 := rfl
  have g3 : (((fmtS h m s f true)[3]'(by omega)).toNat : Int) = 48 + m / 10 := fmt_byte (x := 48 + m / 10) (by omega) (by omega)
  have g4 : (((fmtS h m s f true)[4]'(by omega)).toNat : Int) = 48 + m % 10 := fmt_byte (x := 48 + m % 10) (by omega) (by omega)
  have g5 : (((fmtS h m s f true)[5]'(by omega)).toNat : Int) = 58 := rfl
  have g6 : (((fmtS h m s f true)[6]'(by omega)).toNat : Int) = 48 + s / 10 := fmt_byte (x := 48 + s / 10) (by omega) (by omega)
  have g7 : (((fmtS h m s f true)[7]'(by omega)).toNat : Int) = 48 + s % 10 := fmt_byte (x := 48 + s % 10) (by omega) (by omega)
  have g8 : (((fmtS h m s f true)[8]'(by omega)).toNat : Int) = 59 := rfl
  have g9 : (((fmtS h m s f true)[9]'(by omega)).toNat : Int) = 48 + f / 10 := fmt_byte (x := 48 + f / 10) (by omega) (by omega)
  have g10 : (((fmtS h m s f true)[10]'(by omega)).toNat : Int) = 48 + f % 10 := fmt_byte (x := 48 + f % 10) (by omega) (by omega)
  have e0 : ((((fmtS h m s f true)[0]'(by omega)).toNat : Int) - 48) * 10 + ((((fmtS h m s f true)[1]'(by omega)).toNat : Int) - 48) = h := by omega
  have e1 : ((((fmtS h m s f true)[3]'(by omega)).toNat : Int) - 48) * 10 + ((((fmtS h m s f true)[4]'(by omega)).toNat : Int) - 48) = m := by omega
  have e2 : ((((fmtS h m s f true)[6]'(by omega)).toNat : Int) - 48) * 10 + ((((fmtS h m s f true)[7]'(by omega)).toNat : Int) - 48) = s := by omega
  have e3 : ((((fmtS h m s f true)[9]'(by omega)).toNat : Int) - 48) * 10 + ((((fmtS h m s f true)[10]'(by omega)).toNat : Int) - 48) = f := by omega
  have key := parse_drop (fmtS h m s f true) b V w hb z (by omega) (by omega) (by omega) (by omega) (by omega) (by omega) (by omega) (by omega) g2 g5 g8
  rw [e0, e1, e2, e3] at key
  exact key H

theorem lawFormats_walk (h m s f b : Int) (d : Bool) (w : World) :
    Calls Try.prog 13 #[.agg #[.int .i64 h, .int .i64 m, .int .i64 s, .int .i64 f, .int .i64 b, .bool d]] w fun e w' => e = .returned (.bool true) ∧ Gr w w' := by
  have H1 := fun w => format_any h m s f b d w
  have H2 := fun w => rformat_any h m s f b d w
  rcases nmE_cases h m s f b d with ⟨e0, ho, hi, hm, e1⟩ | ⟨e0, e1⟩
  · obtain ⟨p1, p2, p3, p4⟩ := inN_out hi
    have hb := okB_bounds ho
    have HP : ∀ w, Calls Try.prog 32 #[.string (fmtS h m s f d), .int .i64 b] w fun e w' => e = .returned (.tuple #[.agg #[.int .i64 h, .int .i64 m, .int .i64 s, .int .i64 f, .int .i64 b, .bool d], .int .i64 0]) ∧ Gr w w' := fun w => by
      have HN := fun w => number_any h m s f b d w
      rw [e0] at HN
      cases d
      · exact parse_yes_plain h m s f b _ w (okB_true ho).1 (by omega) (by omega) (by omega) (by omega) HN
      · exact parse_yes_drop h m s f b _ w (okB_true ho).1 (by omega) (by omega) (by omega) (by omega) HN
    have ef : fmV h m s f b d = fmtS h m s f d := if_pos e0
    rw [ef, e0] at H1 H2
    have hz := fmtS_size h m s f d
    generalize fmtS h m s f d = S at *
    have H1 := Lib.hid H1
    have H2 := Lib.hid H2
    have HP := Lib.hid HP
    clear ef e0 e1 ho hi hm hb p1 p2 p3 p4
    go_enter Try.func13, Try.ntmps13
    go_wp2_with (first
      | (go_at_call 30; refine (H1.out _).mono ?_; rintro e w1 ⟨rfl, hg1⟩; obtain ⟨hc1, hf1⟩ := hg1.cells; have hz1 := hg1.size; (try simp at hz1); (try have hl1_0_0 : w.heap.size < w1.heap.size := by omega); (try have hm1_0_0 : w.heap.size ≤ w1.heap.size := by omega); (try have hl1_0_1 : w.heap.size + 1 < w1.heap.size := by omega); (try have hl1_0_2 : w.heap.size + 2 < w1.heap.size := by omega))
      | (go_at_call 31; refine (H2.out _).mono ?_; rintro e w2 ⟨rfl, hg2⟩; obtain ⟨hc2, hf2⟩ := hg2.cells; have hz2 := hg2.size; (try simp at hz2); (try have hl2_0_0 : w.heap.size < w2.heap.size := by omega); (try have hm2_0_0 : w.heap.size ≤ w2.heap.size := by omega); (try have hl2_0_1 : w.heap.size + 1 < w2.heap.size := by omega); (try have hl2_0_2 : w.heap.size + 2 < w2.heap.size := by omega); (try have hl2_1_0 : w1.heap.size < w2.heap.size := by omega); (try have hm2_1_0 : w1.heap.size ≤ w2.heap.size := by omega); (try have hl2_1_1 : w1.heap.size + 1 < w2.heap.size := by omega); (try have hl2_1_2 : w1.heap.size + 2 < w2.heap.size := by omega))
      | (go_at_call 32; refine (HP.out _).mono ?_; rintro e w3 ⟨rfl, hg3⟩; obtain ⟨hc3, hf3⟩ := hg3.cells; have hz3 := hg3.size; (try simp at hz3); (try have hl3_0_0 : w.heap.size < w3.heap.size := by omega); (try have hm3_0_0 : w.heap.size ≤ w3.heap.size := by omega); (try have hl3_0_1 : w.heap.size + 1 < w3.heap.size := by omega); (try have hl3_0_2 : w.heap.size + 2 < w3.heap.size := by omega); (try have hl3_1_0 : w1.heap.size < w3.heap.size := by omega); (try have hm3_1_0 : w1.heap.size ≤ w3.heap.size := by omega); (try have hl3_1_1 : w1.heap.size + 1 < w3.heap.size := by omega); (try have hl3_1_2 : w1.heap.size + 2 < w3.heap.size := by omega); (try have hl3_2_0 : w2.heap.size < w3.heap.size := by omega); (try have hm3_2_0 : w2.heap.size ≤ w3.heap.size := by omega); (try have hl3_2_1 : w2.heap.size + 1 < w3.heap.size := by omega); (try have hl3_2_2 : w2.heap.size + 2 < w3.heap.size := by omega))
      | (go_at_call 20; refine (awake_any _).mono ?_; rintro e w5 ⟨rfl, hg5⟩))
    go_ret
    exact ⟨ret_bool rfl, (by repeat (first | refine Gr.setCell ?_ (by first | omega | (simp; done) | (simp; omega)) _ | refine Gr.alloc ?_ _ | refine Gr.drew ?_ | refine Gr.drewN ?_ _ | with_reducible assumption | with_reducible exact Gr.refl _ | refine Gr.trans ?_ (by with_reducible assumption)))⟩
  · generalize fmV h m s f b d = S at *
    generalize nmE h m s f b d = E at *
    have H1 := Lib.hid H1
    have H2 := Lib.hid H2
    clear e1
    rcases e0 with rfl | rfl
    all_goals
      go_enter Try.func13, Try.ntmps13
      go_wp2_with (first
        | (go_at_call 30; refine (H1.out _).mono ?_; rintro e w1 ⟨rfl, hg1⟩; obtain ⟨hc1, hf1⟩ := hg1.cells; have hz1 := hg1.size; (try simp at hz1); (try have hl1_0_0 : w.heap.size < w1.heap.size := by omega); (try have hm1_0_0 : w.heap.size ≤ w1.heap.size := by omega); (try have hl1_0_1 : w.heap.size + 1 < w1.heap.size := by omega); (try have hl1_0_2 : w.heap.size + 2 < w1.heap.size := by omega))
        | (go_at_call 31; refine (H2.out _).mono ?_; rintro e w2 ⟨rfl, hg2⟩; obtain ⟨hc2, hf2⟩ := hg2.cells; have hz2 := hg2.size; (try simp at hz2); (try have hl2_0_0 : w.heap.size < w2.heap.size := by omega); (try have hm2_0_0 : w.heap.size ≤ w2.heap.size := by omega); (try have hl2_0_1 : w.heap.size + 1 < w2.heap.size := by omega); (try have hl2_0_2 : w.heap.size + 2 < w2.heap.size := by omega); (try have hl2_1_0 : w1.heap.size < w2.heap.size := by omega); (try have hm2_1_0 : w1.heap.size ≤ w2.heap.size := by omega); (try have hl2_1_1 : w1.heap.size + 1 < w2.heap.size := by omega); (try have hl2_1_2 : w1.heap.size + 2 < w2.heap.size := by omega))
        | (go_at_call 20; refine (awake_any _).mono ?_; rintro e w5 ⟨rfl, hg5⟩))
      go_ret
      exact ⟨ret_bool rfl, (by repeat (first | refine Gr.setCell ?_ (by first | omega | (simp; done) | (simp; omega)) _ | refine Gr.alloc ?_ _ | refine Gr.drew ?_ | refine Gr.drewN ?_ _ | with_reducible assumption | with_reducible exact Gr.refl _ | refine Gr.trans ?_ (by with_reducible assumption)))⟩
end Go.Proofs.Ytehdkoillpebgaa
