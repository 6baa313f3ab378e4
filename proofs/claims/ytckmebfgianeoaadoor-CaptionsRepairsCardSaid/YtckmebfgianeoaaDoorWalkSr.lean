/-
  Contract of a rotation of captions, between worlds of a sort.
  Conditions: none.
-/
import Derived.Test.YtckmebfgianeoaaDoorWalkSw
namespace Go.Proofs.YtckmebfgianeoaaDoor
open Go.RowKit Go.Lib Go.Sort
set_option linter.unusedSimpArgs false
set_option linter.unusedVariables false

set_option maxHeartbeats 4000000 in
set_option maxRecDepth 100000 in
theorem rot_any (g off cap sz : Nat) (d0 d : Array TC) (w0 w : World) (R : RowT w0 g off d0) (S : SWT w0 g off d w) (hs : d0.size = sz) (hsd : d.size = sz) (hsz : sz < 4611686018427387904) (P X Y Q : List TC) (hd : d.toList = P ++ (X ++ (Y ++ Q))) (hX : 0 < X.length) (hY : 0 < Y.length) (a m b : Nat) (ha : a = P.length) (hm : m = P.length + X.length) (hb : b = P.length + X.length + Y.length) :
    Calls Tryd.prog 118 #[.slice (some ⟨g, off, none⟩) sz cap, .int .i64 a, .int .i64 m, .int .i64 b, .func (.func 63) #[] #[]] w fun e w' => e = .returned (.tuple #[]) ∧ ∃ d' : Array TC, d'.toList = P ++ (Y ++ (X ++ Q)) ∧ SWT w0 g off d' w' := by
  have HS : Hid (∀ (dk : Array TC) (w' : World) (P A M B Q : List TC) (ai bi ni : Int), SWT w0 g off dk w' → dk.toList = P ++ (A ++ (M ++ (B ++ Q))) → dk.size = sz → A.length = B.length → ai = P.length → bi = (P.length : Int) + A.length + M.length → ni = A.length →
      Calls Tryd.prog 132 #[.slice (some ⟨g, off, none⟩) sz cap, .int .i64 ai, .int .i64 bi, .int .i64 ni, .func (.func 63) #[] #[]] w' fun e w'' => e = .returned (.tuple #[]) ∧ ∃ d' : Array TC, d'.toList = P ++ (B ++ (M ++ (A ++ Q))) ∧ SWT w0 g off d' w'') := fun dk w' P A M B Q ai bi ni h1 h2 h3 h4 h5 h6 h7 => by
    have := swr_any g off cap sz d0 dk w0 w' R h1 hs h3 hsz P A M B Q h2 h4 P.length (P.length + A.length + M.length) A.length rfl rfl rfl
    rw [h5, h6, h7, show (P.length : Int) + A.length + M.length = ((P.length + A.length + M.length : Nat) : Int) by omega]
    exact this
  have hz : b ≤ sz := by
    have := size_of_list hd
    simp at this
    omega
  have hmz : m ≤ b := by omega
  have hst : Hid (∃ (P1 X1 Y1 Q1 : List TC), P1.length + X1.length = m ∧ X1.length = m - a ∧ Y1.length = b - m ∧ d.toList = P1 ++ (X1 ++ (Y1 ++ Q1)) ∧ P1 ++ (Y1 ++ (X1 ++ Q1)) = P ++ (Y ++ (X ++ Q))) := ⟨P, X, Y, Q, by omega, by omega, by omega, hd, rfl⟩
  have S0 : Hid (SWT w0 g off d w) := S
  have i0 : 0 < m - a := by omega
  have j0 : 0 < b - m := by omega
  have ham : a ≤ m := by omega
  clear S hd ha hm hb hX hY R hs
  go_enter Tryd.func118, Tryd.ntmps118
  go_wp2
  go_loopw [10, 11] (fun vi vj wr => ∃ (i j : Nat) (dk : Array TC), vi = .int .i64 i ∧ vj = .int .i64 j ∧ 0 < i ∧ 0 < j ∧ i ≤ m ∧ m + j ≤ sz ∧ dk.size = sz ∧ Hid (∃ (P1 X1 Y1 Q1 : List TC), P1.length + X1.length = m ∧ X1.length = i ∧ Y1.length = j ∧ dk.toList = P1 ++ (X1 ++ (Y1 ++ Q1)) ∧ P1 ++ (Y1 ++ (X1 ++ Q1)) = P ++ (Y ++ (X ++ Q))) ∧ Hid (SWT w0 g off dk wr)) (fun vi vj _ => (RowKit.intOf vi).toNat + (RowKit.intOf vj).toNat)
  case atStart => exact ⟨m - a, b - m, d, by go_num, by go_num, i0, j0, by omega, by omega, hsd, hst, S0⟩
  case round =>
    obtain ⟨i, j, dk, rfl, rfl, hi, hj, him, hjm, hdk, hL, S1⟩ := hrel
    clear hst S0
    obtain ⟨P1, X1, Y1, Q1, l1, l2, l3, l4, l5⟩ := hL
    have l4 := Lib.hid l4
    have l5 := Lib.hid l5
    by_cases hij : i = j
    · have q1 : ((i : Int) != (j : Int)) = false := by simp; omega
      go_wp2_with (go_at_call 132; (with_reducible refine (HS.out dk _ P1 X1 [] Y1 Q1 _ _ _ S1.out ?_ hdk ?_ ?_ ?_ ?_).mono ?_); (· exact l4.out); (· omega); (· omega); (· simp; omega); (· omega); rintro e w1 ⟨rfl, d1, hd1, S2⟩)
      go_end0
      refine ⟨rfl, d1, ?_, S2⟩
      rw [hd1, ← l5.out]
      simp
    · have q1 : ((i : Int) != (j : Int)) = true := by simp; omega
      by_cases hlt : j < i
      · have q2 : decide ((j : Int) < (i : Int)) = true := decide_eq_true (by omega)
        have q3 : decide ((i : Int) > (j : Int)) = true := decide_eq_true (by omega)
        go_wp2_with (go_at_call 132; (with_reducible refine (HS.out dk _ P1 (X1.take j) (X1.drop j) Y1 Q1 _ _ _ S1.out ?_ hdk ?_ ?_ ?_ ?_).mono ?_); (· rw [l4.out, ← List.append_assoc (X1.take j), List.take_append_drop]); (· rw [List.length_take]; omega); (· omega); (· rw [List.length_take, List.length_drop]; omega); (· rw [List.length_take]; omega); rintro e w1 ⟨rfl, d1, hd1, S2⟩)
        have e1 : (i : Int) - (j : Int) = ((i - j : Nat) : Int) := by omega
        have hs1 : d1.size = sz := by
          have h1 := size_of_list hd1
          have h2 := size_of_list l4.out
          simp at h1 h2
          omega
        have hd1 := Lib.hid hd1
        have S2 := Lib.hid S2
        go_roundw
        case rel =>
          refine ⟨i - j, j, d1, by rw [e1], rfl, by omega, hj, by omega, hjm, hs1, Lib.hid ⟨P1 ++ Y1, X1.drop j, X1.take j, Q1, ?_, ?_, ?_, ?_, ?_⟩, S2⟩
          · rw [List.length_append, List.length_drop]; omega
          · rw [List.length_drop, l2]
          · rw [List.length_take]; omega
          · rw [hd1.out]; simp
          · rw [← l5.out, ← List.append_assoc (X1.take j), List.take_append_drop]; simp
        case measure => simp [RowKit.intOf]; omega
      · have q2 : decide ((j : Int) < (i : Int)) = false := decide_eq_false (by omega)
        have q3 : decide ((i : Int) > (j : Int)) = false := decide_eq_false (by omega)
        go_wp2_with (go_at_call 132; (with_reducible refine (HS.out dk _ P1 X1 (Y1.take (j - i)) (Y1.drop (j - i)) Q1 _ _ _ S1.out ?_ hdk ?_ ?_ ?_ ?_).mono ?_); (· rw [l4.out, ← List.append_assoc (Y1.take (j - i)), List.take_append_drop]); (· rw [List.length_drop]; omega); (· omega); (· rw [List.length_take]; omega); (· omega); rintro e w1 ⟨rfl, d1, hd1, S2⟩)
        have e1 : (j : Int) - (i : Int) = ((j - i : Nat) : Int) := by omega
        have hs1 : d1.size = sz := by
          have h1 := size_of_list hd1
          have h2 := size_of_list l4.out
          simp at h1 h2
          omega
        have hd1 := Lib.hid hd1
        have S2 := Lib.hid S2
        go_roundw
        case rel =>
          refine ⟨i, j - i, d1, rfl, by rw [e1], hi, by omega, him, by omega, hs1, Lib.hid ⟨P1, Y1.drop (j - i), Y1.take (j - i), X1 ++ Q1, ?_, ?_, ?_, ?_, ?_⟩, S2⟩
          · rw [List.length_drop]; omega
          · rw [List.length_drop]; omega
          · rw [List.length_take]; omega
          · rw [hd1.out]
          · rw [← l5.out, ← List.append_assoc (Y1.take (j - i)), List.take_append_drop]
        case measure => simp [RowKit.intOf]; omega
end Go.Proofs.YtckmebfgianeoaaDoor
