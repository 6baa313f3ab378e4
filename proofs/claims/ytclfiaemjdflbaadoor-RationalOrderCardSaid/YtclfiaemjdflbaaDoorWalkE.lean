/-
  Contracts of math/bits.Div64 and Rem64, and of what divides wide integers.
  Conditions: the arguments are words, the divisor is greater than the high word (Div64) or not 0 (Rem64).
-/
import Derived.Test.YtclfiaemjdflbaaDoorWalkD
namespace Go.Proofs.YtclfiaemjdflbaaDoor
open Go.RowKit
set_option linter.unusedSimpArgs false
set_option linter.unusedVariables false

theorem div64_any (hi lo y : Int) (w : World) (h1 : 0 ≤ hi) (h2 : hi < y) (h3 : 0 ≤ lo) (h4 : lo < 18446744073709551616) (h5 : y < 18446744073709551616) :
    Calls Tryd.prog 45 #[.int .u64 hi, .int .u64 lo, .int .u64 y] w fun e w' => e = .returned (.tuple #[.int .u64 ((hi * 18446744073709551616 + lo) / y), .int .u64 ((hi * 18446744073709551616 + lo) % y)]) ∧ ∃ n, w' = w.drewN n := by
  by_cases h0 : hi = 0
  · subst h0
    have c1 : (y == 0) = false := by simp; omega
    have q0 : 0 ≤ lo / y := Int.ediv_nonneg h3 (by omega)
    have q1 : lo / y ≤ lo := Int.ediv_le_self _ h3
    have q2 : 0 ≤ lo % y := Int.emod_nonneg _ (by omega)
    have q3 : lo % y < y := Int.emod_lt_of_pos _ (by omega)
    go_enter Tryd.func45, Tryd.ntmps45
    go_wp2
    go_region
    go_wp2
    go_ret2
    exact ⟨by simp, 1, rfl⟩
  · obtain ⟨hi, rfl⟩ := Int.eq_ofNat_of_zero_le h1
    obtain ⟨lo, rfl⟩ := Int.eq_ofNat_of_zero_le h3
    obtain ⟨y, rfl⟩ := Int.eq_ofNat_of_zero_le (show 0 ≤ y by omega)
    obtain ⟨s, hs, hs1, g1, g2, g3⟩ := shift_of y (by omega) (by omega)
    have gy : ((y : Int) * 2 ^ (s : Int).toNat) = ((y * 2 ^ s : Nat) : Int) := by simp
    have gl : ((lo : Int) * 2 ^ (s : Int).toNat) = ((lo * 2 ^ s : Nat) : Int) := by simp
    have gh : ((hi : Int) * 2 ^ (s : Int).toNat) = ((hi * 2 ^ s : Nat) : Int) := by simp
    have gs : (64 - (s : Int)).toNat = 64 - s := by omega
    have gd : ((lo : Int) / 2 ^ (64 - (s : Int)).toNat) = ((lo / 2 ^ (64 - s) : Nat) : Int) := by rw [gs]; simp
    obtain ⟨k1, k2, k3, k4⟩ := shift_words hi lo y s (by omega) (by omega) (by omega) g2
    have k5 : hi * 2 ^ s ≤ hi * 2 ^ s + lo / 2 ^ (64 - s) := Nat.le_add_right _ _
    generalize hU : hi * 2 ^ s + lo / 2 ^ (64 - s) = U at *
    have ey : IntKind.u64.wrap ((y * 2 ^ s : Nat) : Int) = ((y * 2 ^ s : Nat) : Int) := by rw [IntKind.wrap_u64]; omega
    have eu : bits .or .u64 (IntKind.u64.wrap ((hi * 2 ^ s : Nat) : Int)) ((lo / 2 ^ (64 - s) : Nat) : Int) = (U : Int) := by
      rw [IntKind.wrap_u64, show ((hi * 2 ^ s : Nat) : Int) % 18446744073709551616 = ((hi * 2 ^ s : Nat) : Int) by omega, u64_or_nat _ _ (by omega) (by omega), k4]
    have hpos : 0 < ((y * 2 ^ s : Nat) : Int) := by omega
    have a1 := rst_nonneg (u := (U : Int)) (d := ((lo * 2 ^ s % 18446744073709551616 / 4294967296 : Nat) : Int)) hpos
    have a2 := rst_lt (u := (U : Int)) (d := ((lo * 2 ^ s % 18446744073709551616 / 4294967296 : Nat) : Int)) hpos
    have a3 := dgt_nonneg (u := (U : Int)) (d := ((lo * 2 ^ s % 18446744073709551616 / 4294967296 : Nat) : Int)) (by omega) (by omega) hpos
    have a4 := dgt_lt (u := (U : Int)) (d := ((lo * 2 ^ s % 18446744073709551616 / 4294967296 : Nat) : Int)) (yv := ((y * 2 ^ s : Nat) : Int)) (by omega) (by omega) hpos
    have b1 := rst_nonneg (u := rst (U : Int) ((lo * 2 ^ s % 18446744073709551616 / 4294967296 : Nat) : Int) ((y * 2 ^ s : Nat) : Int)) (d := ((lo * 2 ^ s % 18446744073709551616 % 4294967296 : Nat) : Int)) hpos
    have b2 := rst_lt (u := rst (U : Int) ((lo * 2 ^ s % 18446744073709551616 / 4294967296 : Nat) : Int) ((y * 2 ^ s : Nat) : Int)) (d := ((lo * 2 ^ s % 18446744073709551616 % 4294967296 : Nat) : Int)) hpos
    have b3 := dgt_nonneg (u := rst (U : Int) ((lo * 2 ^ s % 18446744073709551616 / 4294967296 : Nat) : Int) ((y * 2 ^ s : Nat) : Int)) (d := ((lo * 2 ^ s % 18446744073709551616 % 4294967296 : Nat) : Int)) a1 (by omega) hpos
    have b4 := dgt_lt (d := ((lo * 2 ^ s % 18446744073709551616 % 4294967296 : Nat) : Int)) a2 (by omega) hpos
    have c1 := dgt_rst (U : Int) ((lo * 2 ^ s % 18446744073709551616 / 4294967296 : Nat) : Int) ((y * 2 ^ s : Nat) : Int)
    have c2 := dgt_rst (rst (U : Int) ((lo * 2 ^ s % 18446744073709551616 / 4294967296 : Nat) : Int) ((y * 2 ^ s : Nat) : Int)) ((lo * 2 ^ s % 18446744073709551616 % 4294967296 : Nat) : Int) ((y * 2 ^ s : Nat) : Int)
    obtain ⟨f1, f2⟩ := div_words hi lo y s U (by omega) k1
    refine (div64_core hi lo y s ((y * 2 ^ s : Nat) : Int) ((y * 2 ^ s / 4294967296 : Nat) : Int) ((y * 2 ^ s % 4294967296 : Nat) : Int) U ((lo * 2 ^ s % 18446744073709551616 : Nat) : Int)
      ((lo * 2 ^ s % 18446744073709551616 / 4294967296 : Nat) : Int) ((lo * 2 ^ s % 18446744073709551616 % 4294967296 : Nat) : Int)
      (dgt U ((lo * 2 ^ s % 18446744073709551616 / 4294967296 : Nat) : Int) ((y * 2 ^ s : Nat) : Int)) (rst U ((lo * 2 ^ s % 18446744073709551616 / 4294967296 : Nat) : Int) ((y * 2 ^ s : Nat) : Int)) _ _ _ _ w
      (by omega) h2 h3 h4 h5 (by omega) (by omega) hs
      (by rw [gy]; exact ey) (by omega) (by omega) (by omega) ?_ (by omega : ((y * 2 ^ s : Nat) : Int) = ((y * 2 ^ s / 4294967296 : Nat) : Int) * 4294967296 + ((y * 2 ^ s % 4294967296 : Nat) : Int)) (by omega) (by omega) (by omega) (by omega)
      (by rw [gh, gd]; exact eu) (by omega) (by omega) (by rw [gl, IntKind.wrap_u64]; omega) ?_ (by omega) (by omega) (by omega) (by omega) (by omega) (by omega) (by omega)
      rfl (wrap_rest c1 a1 (by omega)) a1 a2 rfl (wrap_rest c2 b1 (by omega)) b1 b2 a3 a4 b3 b4 f1 f2).mono fun e w' ⟨h, h'⟩ => ⟨h, 0, h'.symm⟩
    · rw [show (4294967295 : Int) = ((4294967295 : Nat) : Int) from rfl, u64_and_nat _ _ (by omega) (by omega)]
      exact congrArg Nat.cast (Nat.and_two_pow_sub_one_eq_mod (y * 2 ^ s) 32)
    · rw [show (4294967295 : Int) = ((4294967295 : Nat) : Int) from rfl, u64_and_nat _ _ (by omega) (by omega)]
      exact congrArg Nat.cast (Nat.and_two_pow_sub_one_eq_mod (lo * 2 ^ s % 18446744073709551616) 32)

set_option maxHeartbeats 400000 in
theorem rem64_any (hi lo y : Int) (w : World) (h1 : 0 ≤ hi) (h2 : hi < 18446744073709551616) (h3 : 0 ≤ lo) (h4 : lo < 18446744073709551616) (h0 : 0 < y) (h5 : y < 18446744073709551616) :
    Calls Tryd.prog 44 #[.int .u64 hi, .int .u64 lo, .int .u64 y] w fun e w' => e = .returned (.int .u64 ((hi * 18446744073709551616 + lo) % y)) ∧ ∃ n, w' = w.drewN n := by
  have q2 : 0 ≤ hi % y := Int.emod_nonneg _ (by omega)
  have q3 : hi % y < y := Int.emod_lt_of_pos _ (by omega)
  go_enter Tryd.func44, Tryd.ntmps44
  go_wp2_with (go_at_call 45; refine (div64_any _ _ _ _ (by omega) (by omega) (by omega) (by omega) (by omega)).mono ?_; rintro e w' ⟨rfl, n, rfl⟩)
  go_ret
  exact ⟨ret_int (mod_words hi lo y), _, rfl⟩
end Go.Proofs.YtclfiaemjdflbaaDoor
