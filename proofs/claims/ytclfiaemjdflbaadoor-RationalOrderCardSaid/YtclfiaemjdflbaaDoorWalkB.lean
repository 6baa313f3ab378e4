/-
  Contracts of 128-bit arithmetic: the words of math/bits and package rational's wide integers.
  Conditions: the arguments are integers of their kinds.
-/
import Derived.Test.YtclfiaemjdflbaaDoorWalkA
import Derived.Test.YtclfiaemjdflbaaDoorShelf
import Derived.Test.YtclfiaemjdflbaaDoorMathB
import Derived.Shelf.Spec.BitsCarry
namespace Go.Proofs.YtclfiaemjdflbaaDoor
open Go.RowKit
set_option linter.unusedSimpArgs false
set_option linter.unusedVariables false

theorem mul64_any (x y : Int) (w : World) (hx : 0 ≤ x) (hx2 : x < 18446744073709551616) (hy : 0 ≤ y) (hy2 : y < 18446744073709551616) :
    Calls Tryd.prog 34 #[.int .u64 x, .int .u64 y] w fun e w' => e = .returned (.tuple #[.int .u64 (x * y / 18446744073709551616), .int .u64 (x * y % 18446744073709551616)]) ∧ w = w' := by
  obtain ⟨x, rfl⟩ := Int.eq_ofNat_of_zero_le hx
  obtain ⟨y, rfl⟩ := Int.eq_ofNat_of_zero_le hy
  refine (Tryd.bits_Mul64 x y (by omega) (by omega) w).mono ?_
  rintro e w' ⟨rfl, rfl⟩
  exact ⟨by simp, rfl⟩

set_option maxHeartbeats 400000 in
theorem times_any (x y : Int) (w : World) (hx : 0 ≤ x) (hx2 : x < 18446744073709551616) (hy : 0 ≤ y) (hy2 : y < 18446744073709551616) :
    Calls Tryd.prog 22 #[.int .u64 x, .int .u64 y] w fun e w' => e = .returned (.agg #[.int .u64 (x * y / 18446744073709551616), .int .u64 (x * y % 18446744073709551616)]) ∧ Gr w w' := by
  go_enter Tryd.func22, Tryd.ntmps22
  go_wp2_with (go_at_call 34; refine (mul64_any _ _ _ (by omega) (by omega) (by omega) (by omega)).mono ?_; rintro e w' ⟨rfl, rfl⟩)
  simp [bodyPost, results, Tryd.results22, go_sem]
  exact (by repeat (first | refine Gr.setCell ?_ (by first | omega | (simp; done) | (simp; omega)) _ | refine Gr.alloc ?_ _ | refine Gr.drew ?_ | refine Gr.drewN ?_ _ | with_reducible assumption | with_reducible exact Gr.refl _ | refine Gr.trans ?_ (by with_reducible assumption)))

theorem or_ne_zero (a b : Int) (h1 : 0 ≤ a) (h2 : a < 18446744073709551616) (h3 : 0 ≤ b) (h4 : b < 18446744073709551616) : (bits .or .u64 a b != 0) = !(decide (a = 0) && decide (b = 0)) := by
  rw [u64_or a b h1 h2 h3 h4]
  by_cases ha : a = 0
  · subst ha
    by_cases hb : b = 0
    · subst hb; rfl
    · have : (0 : Int).toNat ||| b.toNat ≠ 0 := by simp; omega
      simp [hb]; omega
  · have : a.toNat ||| b.toNat ≠ 0 := by
      intro h
      have := Nat.or_eq_zero_iff.1 h
      omega
    simp [ha]; omega
theorem ret_agg3 {b b' : Bool} {x x' y y' : Int} (h1 : b = b') (h2 : x = x') (h3 : y = y') :
    Ending.returned (.agg #[.bool b, .int .u64 x, .int .u64 y]) = .returned (.agg #[.bool b', .int .u64 x', .int .u64 y']) := by rw [h1, h2, h3]

set_option maxHeartbeats 400000 in
theorem product_any (x y : Int) (w : World) (h1 : -9223372036854775808 ≤ x) (h2 : x ≤ 9223372036854775807) (h3 : -9223372036854775808 ≤ y) (h4 : y ≤ 9223372036854775807) :
    Calls Tryd.prog 19 #[.int .i64 x, .int .i64 y] w fun e w' => e = .returned (.agg #[.bool (wN (x * y)), .int .u64 (wH (x * y)), .int .u64 (wL (x * y))]) ∧ Gr w w' := by
  have b1 := mg_nonneg x
  have b2 := mg_nonneg y
  have b3 := mg_lt x h1 h2
  have b4 := mg_lt y h3 h4
  by_cases hx : x < 0
  all_goals by_cases hy : y < 0
  all_goals
    go_enter Tryd.func19, Tryd.ntmps19
    go_wp2_with (first
      | (go_at_call 32; refine (magnitude_any _ _ (by omega) (by omega)).mono ?_; rintro e w' ⟨rfl, rfl⟩)
      | (go_at_call 34; refine (mul64_any _ _ _ (by omega) (by omega) (by omega) (by omega)).mono ?_; rintro e w' ⟨rfl, rfl⟩))
    simp [bodyPost, results, Tryd.results19, go_sem]
    refine ⟨⟨?_, ?_, ?_⟩, (Gr.refl _).alloc _⟩
    · have hw := wN_mul x y
      have hl : mg x * mg y ≤ 18446744073709551615 * 18446744073709551615 := Int.mul_le_mul (by omega) (by omega) b2 (by omega)
      have hp : 0 ≤ mg x * mg y := Int.mul_nonneg b1 b2
      have ho := or_ne_zero (mg x * mg y / 18446744073709551616) (mg x * mg y % 18446744073709551616) (by omega) (by omega) (by omega) (by omega)
      rw [mul_words] at ho
      rw [hw]
      first | (simp [ho, hx, hy]; done) | (simp [Int.not_lt.2 hx, Int.not_lt.2 hy]; done)
    · unfold wH; rw [mg_mul]
    · unfold wL; rw [mg_mul]
end Go.Proofs.YtclfiaemjdflbaaDoor
