/-
  Contracts of digits and clock of the reference.
  Conditions: the rate is suitable; the frame is a frame of a film.
-/
import Derived.Test.YtckmebfgianeoaaDoorWalkFt
import Derived.Test.YtckmebfgianeoaaDoorWalkN
import Derived.Laws.Runes
import Derived.Laws.Concat
import Derived.Outline
namespace Go.Proofs.YtckmebfgianeoaaDoor
open Go.RowKit Go.Lib
set_option linter.unusedSimpArgs false
set_option linter.unusedVariables false

theorem encode_digit (x : Int) (h0 : 0 ≤ x) (h1 : x < 128) : Utf8.encode x = ⟨#[UInt8.ofNat x.toNat]⟩ := by
  have hv : Utf8.valid x = true := by unfold Utf8.valid; simp; omega
  unfold Utf8.encode
  have : x.toNat < 128 := by omega
  simp [hv, this]
/-- a number with a number of digits -/
def digL : Nat → Int → List UInt8
  | 0, _ => []
  | k + 1, n => digL k (n / 10) ++ [UInt8.ofNat (48 + n % 10).toNat]
theorem digL_len : ∀ (k : Nat) (n : Int), (digL k n).length = k
  | 0, _ => rfl
  | k + 1, n => by rw [digL, List.length_append, digL_len k]; rfl
theorem digL_two : ∀ n : Fin 100, digL 2 ((n.1 : Nat) : Int) = padL 2 ((n.1 : Nat) : Int) := by decide +kernel
theorem digL_three : ∀ n : Fin 1000, digL 3 ((n.1 : Nat) : Int) = padL 3 ((n.1 : Nat) : Int) := by decide +kernel

set_option maxHeartbeats 1000000 in
theorem digits_any (n : Int) (m : Nat) (w : World) (h0 : 0 ≤ n) (h1 : n ≤ 9223372036854775807) (hm : m ≤ 3) :
    Calls Tryd.prog 80 #[.int .i64 n, .int .i64 m] w fun e w' => e = .returned (.string ⟨(digL m n).toArray⟩) ∧ Gr w w' := by
  obtain ⟨R, hR⟩ : ∃ R, digL m n = R := ⟨_, rfl⟩
  rw [hR]
  have HS : Hid (digL (m - 0) n ++ ([] : List UInt8) = R) := by refine Lib.hid ?_; rw [List.append_nil]; exact hR
  clear hR
  go_enter Tryd.func80, Tryd.ntmps80
  go_wp2
  go_loopw [0, 5, 6] (fun v s i wr => ∃ (j : Nat) (x : Int) (acc : List UInt8), v = .int .i64 x ∧ s = .string ⟨acc.toArray⟩ ∧ i = .int .i64 j ∧ j ≤ m ∧ 0 ≤ x ∧ x ≤ 9223372036854775807 ∧ acc.length = j ∧ Gr w wr ∧ Hid (digL (m - j) x ++ acc = R)) (fun _ _ i _ => m - (RowKit.intOf i).toNat)
  case atStart => exact ⟨0, n, [], rfl, rfl, rfl, Nat.zero_le _, h0, h1, rfl, Gr.refl _, HS⟩
  case round =>
    obtain ⟨j, x, acc, rfl, rfl, rfl, hj, hx0, hx1, hl, hg, hno⟩ := hrel
    clear HS
    by_cases c : j < m
    · have q : decide ((j : Int) < (m : Int)) = true := decide_eq_true (by omega)
      have e1 := encode_digit (48 + x % 10) (by omega) (by omega)
      have ks : ∀ w, (Op.stringOp .add ⟨#[UInt8.ofNat (48 + x % 10).toNat]⟩ ⟨acc.toArray⟩).run Tryd.prog w = .ok (.string ⟨(UInt8.ofNat (48 + x % 10).toNat :: acc).toArray⟩) w := fun w => run_string_add_lists w [_] acc (by simp) (by omega)
      have hN : Hid (digL (m - (j + 1)) (x / 10) ++ (UInt8.ofNat (48 + x % 10).toNat :: acc) = R) := by
        refine Lib.hid ?_
        rw [← hno.out, show m - j = (m - (j + 1)) + 1 by omega, digL, List.append_assoc]
        rfl
      clear hno
      go_wp2
      go_roundw
      case rel => exact ⟨j + 1, x / 10, _, by go_num, rfl, by go_num, by omega, by omega, by omega, by simp [hl], hg, hN⟩
      case measure => simp [RowKit.intOf]; omega
    · have q : decide ((j : Int) < (m : Int)) = false := decide_eq_false (by omega)
      have hN : Hid (acc = R) := by
        refine Lib.hid ?_
        rw [← hno.out, show m - j = 0 by omega, digL]
        rfl
      clear hno
      go_wp2
      go_ret
      rw [hN.out]
      exact ⟨rfl, hg⟩

/-- the text of the clock -/
def clkT (q : Int) : List UInt8 := digL 2 (q / 3600000) ++ 58 :: (digL 2 (q / 60000 % 60) ++ 58 :: (digL 2 (q / 1000 % 60) ++ 44 :: digL 3 (q % 1000)))
theorem clkT_len (q : Int) : (clkT q).length = 12 := by unfold clkT; simp [digL_len]
theorem dig2_pad {n : Int} (h0 : 0 ≤ n) (h1 : n < 100) : digL 2 n = padL 2 n := by
  have := digL_two ⟨n.toNat, by omega⟩
  simp only at this
  rwa [show ((n.toNat : Nat) : Int) = n by omega] at this
theorem dig3_pad {n : Int} (h0 : 0 ≤ n) (h1 : n < 1000) : digL 3 n = padL 3 n := by
  have := digL_three ⟨n.toNat, by omega⟩
  simp only at this
  rwa [show ((n.toNat : Nat) : Int) = n by omega] at this
theorem clkT_eq {q : Int} (h0 : 0 ≤ q) (h1 : q < 360000000) : clkT q = timeT q := by
  unfold clkT timeT
  rw [dig2_pad (by omega) (by omega), dig2_pad (by omega) (by omega), dig2_pad (by omega) (by omega), dig3_pad (by omega) (by omega)]
  rw [show q / 1000 / 3600 = q / 3600000 by omega, show q / 1000 / 60 = q / 60000 by omega]
/-- the nearest quotient -/
theorem msQ_near {v num : Int} (h1 : 1 ≤ num) (h0 : 0 ≤ v) : (2 * v + num) / (2 * num) = v / num + (if num - v % num ≤ v % num then 1 else 0) := by
  have h2 := Int.mul_ediv_add_emod v num
  have h3 := Int.emod_nonneg v (show num ≠ 0 by omega)
  have h4 := Int.emod_lt_of_pos v (show 0 < num by omega)
  generalize v / num = a at *
  generalize v % num = r at *
  have h5 : num * a = a * num := Int.mul_comm _ _
  split
  · have : 2 * v + num = (2 * r - num) + 2 * num * (a + 1) := by grind
    rw [this, Int.add_mul_ediv_left _ _ (by omega), Int.ediv_eq_zero_of_lt (by omega) (by omega)]
    omega
  · have : 2 * v + num = (2 * r + num) + 2 * num * a := by grind
    rw [this, Int.add_mul_ediv_left _ _ (by omega), Int.ediv_eq_zero_of_lt (by omega) (by omega)]
    omega

set_option maxRecDepth 20000 in
set_option maxHeartbeats 2000000 in
theorem clock_core (n num den v a r q : Int) (w : World) (hq : q = a + (if num - r ≤ r then 1 else 0)) (h0 : 0 ≤ q ∧ q ≤ 9223372036854775806) (ha : 0 ≤ a ∧ a ≤ 9223372036854775806) (hr : 0 ≤ r ∧ r < num) (hnum : 1 ≤ num ∧ num ≤ 1048576) (hd : 1 ≤ den ∧ den ≤ 65536)
    (HM : ∀ w, Calls Tryd.prog 79 #[.int .i64 n, .int .i64 (1000 * den), .int .i64 num] w fun e w' => e = .returned (.tuple #[.int .i64 a, .int .i64 r, .int .i64 0]) ∧ Gr w w') :
    Calls Tryd.prog 53 #[.int .i64 n, .agg #[.int .i64 num, .int .i64 den]] w fun e w' => e = .returned (.tuple #[.string ⟨(clkT q).toArray⟩, .bool (decide (q < 360000000))]) ∧ Gr w w' := by
  have HM := Lib.hid HM
  have hnew := Cel.new w #[.int .i64 num, .int .i64 den] 47
  have D1 : Hid (∀ w, Calls Tryd.prog 80 #[.int .i64 (q / 3600000), .int .i64 2] w fun e w' => e = .returned (.string ⟨(digL 2 (q / 3600000)).toArray⟩) ∧ Gr w w') := fun w => digits_any _ 2 w (by omega) (by omega) (by omega)
  have D2 : Hid (∀ w, Calls Tryd.prog 80 #[.int .i64 (q / 60000 % 60), .int .i64 2] w fun e w' => e = .returned (.string ⟨(digL 2 (q / 60000 % 60)).toArray⟩) ∧ Gr w w') := fun w => digits_any _ 2 w (by omega) (by omega) (by omega)
  have D3 : Hid (∀ w, Calls Tryd.prog 80 #[.int .i64 (q / 1000 % 60), .int .i64 2] w fun e w' => e = .returned (.string ⟨(digL 2 (q / 1000 % 60)).toArray⟩) ∧ Gr w w') := fun w => digits_any _ 2 w (by omega) (by omega) (by omega)
  have D4 : Hid (∀ w, Calls Tryd.prog 80 #[.int .i64 (q % 1000), .int .i64 3] w fun e w' => e = .returned (.string ⟨(digL 3 (q % 1000)).toArray⟩) ∧ Gr w w') := fun w => digits_any _ 3 w (by omega) (by omega) (by omega)
  have hC : Hid (∀ t1 t2 t3 t4 : ByteArray, t1 = ⟨(digL 2 (q / 3600000)).toArray⟩ → t2 = ⟨(digL 2 (q / 60000 % 60)).toArray⟩ → t3 = ⟨(digL 2 (q / 1000 % 60)).toArray⟩ → t4 = ⟨(digL 3 (q % 1000)).toArray⟩ → t1 ++ ⟨#[58]⟩ ++ t2 ++ ⟨#[58]⟩ ++ t3 ++ ⟨#[44]⟩ ++ t4 = ⟨(clkT q).toArray⟩) := by
    refine Lib.hid fun t1 t2 t3 t4 e1 e2 e3 e4 => ?_
    subst e1 e2 e3 e4
    apply ba_ext
    unfold clkT
    simp
  have L1 : (⟨(digL 2 (q / 3600000)).toArray⟩ : ByteArray).size = 2 := by show (digL 2 _).length = 2; exact digL_len _ _
  have L2 : (⟨(digL 2 (q / 60000 % 60)).toArray⟩ : ByteArray).size = 2 := by show (digL 2 _).length = 2; exact digL_len _ _
  have L3 : (⟨(digL 2 (q / 1000 % 60)).toArray⟩ : ByteArray).size = 2 := by show (digL 2 _).length = 2; exact digL_len _ _
  have L4 : (⟨(digL 3 (q % 1000)).toArray⟩ : ByteArray).size = 3 := by show (digL 3 _).length = 3; exact digL_len _ _
  generalize ht : (⟨(clkT q).toArray⟩ : ByteArray) = T at hC ⊢
  clear ht
  have DD : Hid (Calls Tryd.prog 53 #[.int .i64 n, .agg #[.int .i64 num, .int .i64 den]] w fun e w' => e = .returned (.tuple #[.string T, .bool (decide (q < 360000000))]) ∧ Gr w w') := by
    refine Lib.hid ?_
    rcases (show (num - r ≤ r) ∨ (r < num - r) by omega) with c | c
    · have q1 : decide (num - r ≤ r) = true := decide_eq_true c
      rw [if_pos c] at hq
      obtain rfl : a = q - 1 := by omega
      clear hq
      go_enter Tryd.func53, Tryd.ntmps53
      go_wp2_with (first
        | (go_at_call 79; (with_reducible refine (HM.out _).mono ?_); rintro e w1 ⟨rfl, hg1⟩; obtain ⟨x0, x1, x2, x3, x4⟩ := (hnew.gr hg1).two)
        | (go_at_call 80; (with_reducible refine (D1.out _).mono ?_); rintro e w2 ⟨rfl, hg2⟩)
        | (go_at_call 80; (with_reducible refine (D2.out _).mono ?_); rintro e w3 ⟨rfl, hg3⟩)
        | (go_at_call 80; (with_reducible refine (D3.out _).mono ?_); rintro e w4 ⟨rfl, hg4⟩)
        | (go_at_call 80; (with_reducible refine (D4.out _).mono ?_); rintro e w5 ⟨rfl, hg5⟩))
      go_ret2
      exact ⟨ret_tup (hC.out _ _ _ _ rfl rfl rfl rfl), (by repeat (first | with_reducible exact Gr.refl _ | with_reducible assumption | refine Gr.setCell ?_ (by first | omega | (simp; done) | (simp; omega)) _ | refine Gr.alloc ?_ _ | refine Gr.drew ?_ | refine Gr.drewN ?_ _ | refine Gr.trans ?_ (by with_reducible assumption)))⟩
    · have q1 : decide (num - r ≤ r) = false := decide_eq_false (by omega)
      rw [if_neg (by omega)] at hq
      obtain rfl : a = q := by omega
      clear hq
      go_enter Tryd.func53, Tryd.ntmps53
      go_wp2_with (first
        | (go_at_call 79; (with_reducible refine (HM.out _).mono ?_); rintro e w1 ⟨rfl, hg1⟩; obtain ⟨x0, x1, x2, x3, x4⟩ := (hnew.gr hg1).two)
        | (go_at_call 80; (with_reducible refine (D1.out _).mono ?_); rintro e w2 ⟨rfl, hg2⟩)
        | (go_at_call 80; (with_reducible refine (D2.out _).mono ?_); rintro e w3 ⟨rfl, hg3⟩)
        | (go_at_call 80; (with_reducible refine (D3.out _).mono ?_); rintro e w4 ⟨rfl, hg4⟩)
        | (go_at_call 80; (with_reducible refine (D4.out _).mono ?_); rintro e w5 ⟨rfl, hg5⟩))
      go_ret2
      exact ⟨ret_tup (hC.out _ _ _ _ rfl rfl rfl rfl), (by repeat (first | with_reducible exact Gr.refl _ | with_reducible assumption | refine Gr.setCell ?_ (by first | omega | (simp; done) | (simp; omega)) _ | refine Gr.alloc ?_ _ | refine Gr.drew ?_ | refine Gr.drewN ?_ _ | refine Gr.trans ?_ (by with_reducible assumption)))⟩
  exact DD.out
theorem clock_any (n num den : Int) (w : World) (h0 : 0 ≤ n) (h1 : n ≤ 2147483647) (hs : suB num den = true) :
    Calls Tryd.prog 53 #[.int .i64 n, .agg #[.int .i64 num, .int .i64 den]] w fun e w' => e = .returned (.tuple #[.string ⟨(clkT (msQ n num den)).toArray⟩, .bool (decide (msQ n num den < 360000000))]) ∧ Gr w w' := by
  obtain ⟨_, n1, n2, d1, d2, _⟩ := suB_out hs
  have hb := ms_bounds h0 h1 hs
  have hv := msQ_near n1 hb.1
  have ha0 : 0 ≤ n * (1000 * den) / num := Int.ediv_nonneg hb.1 (by omega)
  have hr0 := Int.emod_nonneg (n * (1000 * den)) (show num ≠ 0 by omega)
  have hr1 := Int.emod_lt_of_pos (n * (1000 * den)) (show 0 < num by omega)
  have hq : msQ n num den = n * (1000 * den) / num + (if num - n * (1000 * den) % num ≤ n * (1000 * den) % num then 1 else 0) := hv
  have ha1 : n * (1000 * den) / num ≤ msQ n num den := by rw [hq]; split <;> omega
  have hP : mdP (n * (1000 * den)) num = true := by unfold mdP; exact decide_eq_true ⟨by omega, by omega⟩
  refine clock_core n num den (n * (1000 * den)) _ _ _ w hq ⟨hb.2.2.1, by omega⟩ ⟨ha0, by omega⟩ ⟨hr0, hr1⟩ ⟨n1, n2⟩ ⟨d1, d2⟩ (fun w => ?_)
  have := rmulDiv_any n (1000 * den) num w ⟨by omega, by omega⟩ ⟨by omega, by omega⟩ ⟨by omega, by omega⟩
  unfold mdQ mdR mdE at this
  rw [if_pos ⟨n1, hP⟩, if_pos ⟨n1, hP⟩, if_pos n1, if_pos hP] at this
  exact this
end Go.Proofs.YtckmebfgianeoaaDoor
