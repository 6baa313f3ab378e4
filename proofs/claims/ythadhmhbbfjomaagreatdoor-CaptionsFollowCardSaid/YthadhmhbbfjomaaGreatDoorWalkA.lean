
import Derived.Below
import Derived.Lib.Hide
import Derived.Test.YthadhmhbbfjomaaGreatDoorChecked
import Derived.WalkKit
import Derived.WalkSpells
import Derived.WalkLawsBesides
import Derived.Test.YthadhmhbbfjomaaGreatDoorKit
import Derived.Test.YthadhmhbbfjomaaGreatDoorShelf
import Derived.Shelf.Spec.BitsCarry
/-
  Plain arithmetic: greatest common divisors and magnitudes of integers. No program in sight.
  Conditions: none.
-/
namespace Go.Proofs.YthadhmhbbfjomaaGreatDoor
open Go.RowKit

/-- the magnitude of an integer -/
def mg (x : Int) : Int := if x < 0 then -x else x
theorem mg_abs (x : Int) : mg x = (x.natAbs : Int) := by unfold mg; split <;> omega
theorem mg_nonneg (x : Int) : 0 ≤ mg x := by unfold mg; split <;> omega
theorem mg_neg {x : Int} (h : x < 0) : mg x = -x := by unfold mg; rw [if_pos h]
theorem mg_pos {x : Int} (h : 0 ≤ x) : mg x = x := by unfold mg; rw [if_neg (by omega)]
theorem mg_lt (x : Int) (h1 : -9223372036854775808 ≤ x) (h2 : x ≤ 9223372036854775807) : mg x < 18446744073709551616 := by unfold mg; split <;> omega
theorem mg_le (x : Int) (h1 : -9223372036854775808 ≤ x) (h2 : x ≤ 9223372036854775807) : mg x ≤ 9223372036854775808 := by unfold mg; split <;> omega

/-- the greatest common divisor -/
def gc (x y : Int) : Int := (Int.gcd x y : Int)
theorem gc_zero (x : Int) (h : 0 ≤ x) : gc x 0 = x := by unfold gc; simp; omega
theorem gc_step (x y : Int) (hx : 0 ≤ x) (hy : 0 ≤ y) : gc y (x % y) = gc x y := by
  obtain ⟨x, rfl⟩ := Int.eq_ofNat_of_zero_le hx
  obtain ⟨y, rfl⟩ := Int.eq_ofNat_of_zero_le hy
  unfold gc
  rw [← Int.natCast_emod]
  simp only [Int.gcd_natCast_natCast]
  rw [Nat.gcd_comm x y, Nat.gcd_rec y x, Nat.gcd_comm]
theorem gc_nonneg (x y : Int) : 0 ≤ gc x y := by unfold gc; omega
theorem gc_le_left (x y : Int) (h : 0 < x) : gc x y ≤ x := by unfold gc; exact Int.gcd_le_left y h
theorem gc_le_right (x y : Int) (h : 0 < y) : gc x y ≤ y := by unfold gc; exact Int.gcd_le_right x h
theorem gc_pos_right (x y : Int) (h : 0 < y) : 0 < gc x y := by
  unfold gc
  have := Int.gcd_pos_of_ne_zero_right x (show y ≠ 0 by omega)
  omega
theorem gc_pos_left (x y : Int) (h : 0 < x) : 0 < gc x y := by
  unfold gc
  have := Int.gcd_pos_of_ne_zero_left y (show x ≠ 0 by omega)
  omega
theorem gc_mg (x y : Int) : gc (mg x) y = gc x y := by unfold gc; rw [mg_abs]; simp [Int.gcd]
theorem gc_mg_right (x y : Int) : gc x (mg y) = gc x y := by unfold gc; rw [mg_abs]; simp [Int.gcd]
theorem gc_dvd_left (x y : Int) : gc x y ∣ x := Int.gcd_dvd_left x y
theorem gc_dvd_right (x y : Int) : gc x y ∣ y := Int.gcd_dvd_right x y
end Go.Proofs.YthadhmhbbfjomaaGreatDoor

/-
  Contracts of the small functions of package rational and of its reference: magnitude, greatest common divisor.
  Conditions: the arguments are integers of their kinds.
-/
namespace Go.Proofs.YthadhmhbbfjomaaGreatDoor
open Go.RowKit

set_option maxHeartbeats 400000 in
theorem magnitude_any (x : Int) (w : World) (h1 : -9223372036854775808 ≤ x) (h2 : x ≤ 9223372036854775807) :
    Calls Tryz.prog 93 #[.int .i64 x] w fun e w' => e = .returned (.int .u64 (mg x)) ∧ w = w' := by
  by_cases h : x < 0
  · go_enter Tryz.func93, Tryz.ntmps93
    go_wp2
    go_ret
    exact ⟨ret_int (by rw [mg_neg h]; first | omega | (simp only [IntKind.wrap_u64]; omega)), rfl⟩
  · go_enter Tryz.func93, Tryz.ntmps93
    go_wp2
    go_ret
    exact ⟨ret_int (by rw [mg_pos (by omega)]), rfl⟩
set_option maxHeartbeats 400000 in
theorem gcd_any (x y : Int) (w : World) (hx : 0 ≤ x) (hx2 : x < 18446744073709551616) (hy : 0 ≤ y) (hy2 : y < 18446744073709551616) :
    Calls Tryz.prog 92 #[.int .u64 x, .int .u64 y] w fun e w' => e = .returned (.int .u64 (gc x y)) ∧ ∃ n, w' = w.drewN n := by
  go_enter Tryz.func92, Tryz.ntmps92
  go_wp2
  go_loopw [0, 1] (fun a b wr => ∃ p q : Int, 0 ≤ p ∧ p < 18446744073709551616 ∧ 0 ≤ q ∧ q < 18446744073709551616 ∧ a = .int .u64 p ∧ b = .int .u64 q ∧ Hid (gc p q = gc x y) ∧ ∃ n, wr = w.drewN n) (fun _ b _ => (intOf b).toNat)
  case atStart => exact ⟨x, y, hx, hx2, hy, hy2, rfl, rfl, rfl, 0, rfl⟩
  case round =>
    obtain ⟨p, q, hp, hp2, hq, hq2, rfl, rfl, hg, n, rfl⟩ := hrel
    by_cases h0 : q = 0
    · subst h0
      go_wp2
      go_ret
      exact ⟨ret_int (by rw [← hg.out, gc_zero _ hp]), n, rfl⟩
    · have hb : (q != 0) = true := by simpa using h0
      have hm1 : 0 ≤ p % q := Int.emod_nonneg _ h0
      have hm2 : p % q < q := Int.emod_lt_of_pos _ (by omega)
      go_wp2
      go_region
      go_wp2
      go_roundw
      case rel => exact ⟨q, p % q, hq, hq2, hm1, by omega, rfl, rfl, (gc_step p q hp hq).trans hg.out, n + 1, rfl⟩
      case measure => simp [intOf]; omega
end Go.Proofs.YthadhmhbbfjomaaGreatDoor

/-
  Plain arithmetic: wide integers as sign, high word and low word; division of two words by one. No program in sight.
  Conditions: none.
-/
namespace Go.Proofs.YthadhmhbbfjomaaGreatDoor
open Go.RowKit

/-- sign, high word and low word of an integer of up to 128 bits -/
def wN (v : Int) : Bool := decide (v < 0)
def wH (v : Int) : Int := mg v / 18446744073709551616
def wL (v : Int) : Int := mg v % 18446744073709551616/-- the borrow of x - y -/
def bor (x y : Int) : Int := if x < y then 1 else 0
theorem wH_nonneg (v : Int) : 0 ≤ wH v := Int.ediv_nonneg (mg_nonneg v) (by omega)
theorem wL_nonneg (v : Int) : 0 ≤ wL v := Int.emod_nonneg _ (by omega)
theorem wL_lt (v : Int) : wL v < 18446744073709551616 := Int.emod_lt_of_pos _ (by omega)
/-- fewer than 128 bits -/
def Fit (v : Int) : Prop := mg v < 340282366920938463463374607431768211456
/-- at most 2^126 -/
def Fit6 (v : Int) : Prop := mg v ≤ 85070591730234615865843651857942052864
theorem wH_lt {v : Int} (h : Fit v) : wH v < 18446744073709551616 := by unfold Fit at h; unfold wH; omega
theorem wHL (v : Int) : wH v * 18446744073709551616 + wL v = mg v := by unfold wH wL; omega
theorem Fit6.fit {v : Int} (h : Fit6 v) : Fit v := by unfold Fit6 at h; unfold Fit; omega
theorem Fit6.plus {a b : Int} (h : Fit6 a) (h' : Fit6 b) : Fit (a + b) := by
  unfold Fit6 mg at *; unfold Fit mg
  split at h <;> split at h' <;> split <;> omega
theorem mg_mul (x y : Int) : mg (x * y) = mg x * mg y := by rw [mg_abs, mg_abs, mg_abs, Int.natAbs_mul, Int.natCast_mul]
theorem fit6_mul (x y : Int) (h1 : -9223372036854775808 ≤ x) (h2 : x ≤ 9223372036854775807) (h3 : -9223372036854775808 ≤ y) (h4 : y ≤ 9223372036854775807) : Fit6 (x * y) := by
  unfold Fit6
  rw [mg_mul]
  have := Int.mul_le_mul (mg_le x h1 h2) (mg_le y h3 h4) (mg_nonneg y) (by omega)
  omega
theorem wN_mul (x y : Int) : wN (x * y) = ((decide (x < 0) != decide (y < 0)) && !(decide (x * y = 0))) := by
  unfold wN
  rcases Int.lt_trichotomy x 0 with hx | rfl | hx <;> rcases Int.lt_trichotomy y 0 with hy | rfl | hy
  · have := Int.mul_pos_of_neg_of_neg hx hy; simp [hx, hy]; omega
  · simp
  · have := Int.mul_neg_of_neg_of_pos hx hy
    rw [decide_eq_true (show x * y < 0 from this), decide_eq_true hx, decide_eq_false (show ¬ y < 0 by omega), decide_eq_false (show ¬ x * y = 0 by omega)]; rfl
  · simp
  · simp
  · simp
  · have := Int.mul_neg_of_pos_of_neg hx hy
    rw [decide_eq_true (show x * y < 0 from this), decide_eq_true hy, decide_eq_false (show ¬ x < 0 by omega), decide_eq_false (show ¬ x * y = 0 by omega)]; rfl
  · simp
  · have := Int.mul_pos hx hy
    rw [decide_eq_false (show ¬ x * y < 0 by omega), decide_eq_false (show ¬ x < 0 by omega), decide_eq_false (show ¬ y < 0 by omega)]; rfl
theorem mul_words (x y : Int) : (decide (mg x * mg y / 18446744073709551616 = 0) && decide (mg x * mg y % 18446744073709551616 = 0)) = decide (x * y = 0) := by
  rw [← mg_mul]
  have h : x * y = 0 ↔ mg (x * y) = 0 := by unfold mg; split <;> omega
  have h0 := mg_nonneg (x * y)
  rw [Bool.eq_iff_iff]
  simp only [Bool.and_eq_true, decide_eq_true_eq, h]
  omega

end Go.Proofs.YthadhmhbbfjomaaGreatDoor

/-
  Contracts of 128-bit arithmetic: the words of math/bits and package rational's wide integers.
  Conditions: the arguments are integers of their kinds.
-/
namespace Go.Proofs.YthadhmhbbfjomaaGreatDoor
open Go.RowKit
set_option linter.unusedSimpArgs false
set_option linter.unusedVariables false

theorem mul64_any (x y : Int) (w : World) (hx : 0 ≤ x) (hx2 : x < 18446744073709551616) (hy : 0 ≤ y) (hy2 : y < 18446744073709551616) :
    Calls Tryz.prog 107 #[.int .u64 x, .int .u64 y] w fun e w' => e = .returned (.tuple #[.int .u64 (x * y / 18446744073709551616), .int .u64 (x * y % 18446744073709551616)]) ∧ w = w' := by
  obtain ⟨x, rfl⟩ := Int.eq_ofNat_of_zero_le hx
  obtain ⟨y, rfl⟩ := Int.eq_ofNat_of_zero_le hy
  refine (Tryz.bits_Mul64 x y (by omega) (by omega) w).mono ?_
  rintro e w' ⟨rfl, rfl⟩
  exact ⟨by simp, rfl⟩

theorem or_ne_zero (a b : Int) (h1 : 0 ≤ a) (h2 : a < 18446744073709551616) (h3 : 0 ≤ b) (h4 : b < 18446744073709551616) : (bits .or .u64 a b != 0) = !(decide (a = 0) && decide (b = 0)) := by
  rw [u64_or a b h1 h2 h3 h4]
  by_cases ha : a = 0
  · subst ha
    by_cases hb : b = 0
    · subst hb; rfl
    · have : (0 : Int).toNat ||| b.toNat ≠ 0 := by simp; omega
      simp [hb]; omega
  · have : a.toNat ||| b.toNat ≠ 0 := by
      intro h
      have := Nat.or_eq_zero_iff.1 h
      omega
    simp [ha]; omega
theorem ret_agg3 {b b' : Bool} {x x' y y' : Int} (h1 : b = b') (h2 : x = x') (h3 : y = y') :
    Ending.returned (.agg #[.bool b, .int .u64 x, .int .u64 y]) = .returned (.agg #[.bool b', .int .u64 x', .int .u64 y']) := by rw [h1, h2, h3]

set_option maxHeartbeats 400000 in
theorem product_any (x y : Int) (w : World) (h1 : -9223372036854775808 ≤ x) (h2 : x ≤ 9223372036854775807) (h3 : -9223372036854775808 ≤ y) (h4 : y ≤ 9223372036854775807) :
    Calls Tryz.prog 87 #[.int .i64 x, .int .i64 y] w fun e w' => e = .returned (.agg #[.bool (wN (x * y)), .int .u64 (wH (x * y)), .int .u64 (wL (x * y))]) ∧ Gr w w' := by
  have b1 := mg_nonneg x
  have b2 := mg_nonneg y
  have b3 := mg_lt x h1 h2
  have b4 := mg_lt y h3 h4
  by_cases hx : x < 0
  all_goals by_cases hy : y < 0
  all_goals
    go_enter Tryz.func87, Tryz.ntmps87
    go_wp2_with (first
      | (go_at_call 93; refine (magnitude_any _ _ (by omega) (by omega)).mono ?_; rintro e w' ⟨rfl, rfl⟩)
      | (go_at_call 107; refine (mul64_any _ _ _ (by omega) (by omega) (by omega) (by omega)).mono ?_; rintro e w' ⟨rfl, rfl⟩))
    simp [bodyPost, results, Tryz.results87, go_sem]
    refine ⟨⟨?_, ?_, ?_⟩, (Gr.refl _).alloc _⟩
    · have hw := wN_mul x y
      have hl : mg x * mg y ≤ 18446744073709551615 * 18446744073709551615 := Int.mul_le_mul (by omega) (by omega) b2 (by omega)
      have hp : 0 ≤ mg x * mg y := Int.mul_nonneg b1 b2
      have ho := or_ne_zero (mg x * mg y / 18446744073709551616) (mg x * mg y % 18446744073709551616) (by omega) (by omega) (by omega) (by omega)
      rw [mul_words] at ho
      rw [hw]
      first | (simp [ho, hx, hy]; done) | (simp [Int.not_lt.2 hx, Int.not_lt.2 hy]; done)
    · unfold wH; rw [mg_mul]
    · unfold wL; rw [mg_mul]
end Go.Proofs.YthadhmhbbfjomaaGreatDoor

/-
  Contracts of the sums and differences of 128-bit integers.
  Conditions: the arguments are words.
-/
namespace Go.Proofs.YthadhmhbbfjomaaGreatDoor
open Go.RowKit
set_option linter.unusedSimpArgs false
set_option linter.unusedVariables false

theorem add64 (x y c : Int) (hx : 0 ≤ x) (hx2 : x < 18446744073709551616) (hy : 0 ≤ y) (hy2 : y < 18446744073709551616) (hc0 : 0 ≤ c) (hc : c ≤ 1) (w : World) : (callFunc 108 #[.int .u64 x, .int .u64 y, .int .u64 c]).run Tryz.prog w =
    .ok (.value (.tuple #[.int .u64 ((x + y + c) % 18446744073709551616), .int .u64 ((x + y + c) / 18446744073709551616)])) w := by
  obtain ⟨x, rfl⟩ := Int.eq_ofNat_of_zero_le hx
  obtain ⟨y, rfl⟩ := Int.eq_ofNat_of_zero_le hy
  obtain ⟨c, rfl⟩ := Int.eq_ofNat_of_zero_le hc0
  rw [run_callFunc_extern Tryz.func108 (by kernel_rfl) (by kernel_rfl) (by kernel_rfl) (e := add64Entry) (by kernel_rfl), run_add64 x y c (by omega) (by omega) (by omega) (by omega)]
  simp only [Result.andThen]
  try (congr 5 <;> omega)
theorem sub64 (x y b : Int) (hx : 0 ≤ x) (hy : 0 ≤ y) (hy2 : y < 18446744073709551616) (hb0 : 0 ≤ b) (hb : b ≤ 1) (w : World) : (callFunc 109 #[.int .u64 x, .int .u64 y, .int .u64 b]).run Tryz.prog w =
    .ok (.value (.tuple #[.int .u64 ((x - y - b) % 18446744073709551616), .int .u64 (if x < y + b then 1 else 0)])) w := by
  obtain ⟨x, rfl⟩ := Int.eq_ofNat_of_zero_le hx
  obtain ⟨y, rfl⟩ := Int.eq_ofNat_of_zero_le hy
  obtain ⟨b, rfl⟩ := Int.eq_ofNat_of_zero_le hb0
  have e1 : (((x + 18446744073709551616 - y - b) % 18446744073709551616 : Nat) : Int) = ((x : Int) - y - b) % 18446744073709551616 := by omega
  have e2 : ((if x < y + b then 1 else 0 : Nat) : Int) = if (x : Int) < y + b then 1 else 0 := by split <;> split <;> omega
  rw [← e1, ← e2, run_callFunc_extern Tryz.func109 (by kernel_rfl) (by kernel_rfl) (by kernel_rfl) (e := sub64Entry) (by kernel_rfl), run_sub64 x y b (by omega)]
  rfl
theorem add64_0 (x y : Int) (hx : 0 ≤ x) (hx2 : x < 18446744073709551616) (hy : 0 ≤ y) (hy2 : y < 18446744073709551616) (w : World) : (callFunc 108 #[.int .u64 x, .int .u64 y, .int .u64 0]).run Tryz.prog w =
    .ok (.value (.tuple #[.int .u64 ((x + y) % 18446744073709551616), .int .u64 ((x + y) / 18446744073709551616)])) w := by
  simpa using add64 x y 0 hx hx2 hy hy2 (Int.le_refl 0) (by decide) w
theorem sub64_0 (x y : Int) (hx : 0 ≤ x) (hy : 0 ≤ y) (hy2 : y < 18446744073709551616) (w : World) : (callFunc 109 #[.int .u64 x, .int .u64 y, .int .u64 0]).run Tryz.prog w =
    .ok (.value (.tuple #[.int .u64 ((x - y) % 18446744073709551616), .int .u64 (bor x y)])) w := by
  have := sub64 x y 0 hx hy hy2 (Int.le_refl 0) (by decide) w
  simp only [Int.sub_zero, Int.add_zero] at this
  exact this

set_option maxHeartbeats 400000 in
theorem wplus_same (ah al bh bl : Int) (n : Bool) (w : World) (a1 : 0 ≤ ah) (a2 : ah < 18446744073709551616) (a3 : 0 ≤ al) (a4 : al < 18446744073709551616) (b1 : 0 ≤ bh) (b2 : bh < 18446744073709551616) (b3 : 0 ≤ bl) (b4 : bl < 18446744073709551616) :
    Calls Tryz.prog 88 #[.agg #[.bool n, .int .u64 ah, .int .u64 al], .agg #[.bool n, .int .u64 bh, .int .u64 bl]] w fun e w' =>
      e = .returned (.agg #[.bool n, .int .u64 ((ah + bh + (al + bl) / 18446744073709551616) % 18446744073709551616), .int .u64 ((al + bl) % 18446744073709551616)]) ∧ Gr w w' := by
  have k0 : 0 ≤ (al + bl) / 18446744073709551616 := by omega
  have k1 : (al + bl) / 18446744073709551616 ≤ 1 := by omega
  go_enter Tryz.func88, Tryz.ntmps88
  go_wp2_with (first | simp only [add64_0 al bl a3 a4 b3 b4] | simp only [add64 ah bh _ a1 a2 b1 b2 k0 k1])
  all_goals (simp [bodyPost, results, Tryz.results88, go_sem]; try exact (by repeat (first | refine Gr.setCell ?_ (by first | omega | (simp; done) | (simp; omega)) _ | refine Gr.alloc ?_ _ | refine Gr.drew ?_ | refine Gr.drewN ?_ _ | with_reducible assumption | with_reducible exact Gr.refl _ | refine Gr.trans ?_ (by with_reducible assumption))))

set_option maxHeartbeats 1000000 in
theorem wplus_ge (ah al bh bl : Int) (n m : Bool) (w : World) (hn : (n == m) = false) (a1 : 0 ≤ ah) (a2 : ah < 18446744073709551616) (a3 : 0 ≤ al) (a4 : al < 18446744073709551616) (b1 : 0 ≤ bh) (b2 : bh < 18446744073709551616) (b3 : 0 ≤ bl) (b4 : bl < 18446744073709551616) (h1 : ¬ ah < bh) (h2 : ah ≠ bh ∨ ¬ al < bl) :
    Calls Tryz.prog 88 #[.agg #[.bool n, .int .u64 ah, .int .u64 al], .agg #[.bool m, .int .u64 bh, .int .u64 bl]] w fun e w' =>
      e = .returned (.agg #[.bool (n && bits .or .u64 ((ah - bh - bor al bl) % 18446744073709551616) ((al - bl) % 18446744073709551616) != 0), .int .u64 ((ah - bh - bor al bl) % 18446744073709551616), .int .u64 ((al - bl) % 18446744073709551616)]) ∧ Gr w w' := by
  have k0 : 0 ≤ bor al bl := by unfold bor; split <;> omega
  have k1 : bor al bl ≤ 1 := by unfold bor; split <;> omega
  have k2 : ∀ w, (callFunc 109 #[.int .u64 ah, .int .u64 bh, .int .u64 (bor al bl)]).run Tryz.prog w = .ok (.value (.tuple #[.int .u64 ((ah - bh - bor al bl) % 18446744073709551616), .int .u64 (bor ah (bh + bor al bl))])) w := fun w => sub64 ah bh (bor al bl) a1 b1 b2 k0 k1 w
  by_cases h3 : ah = bh
  · have h4 : ¬ al < bl := by omega
    have h5 : (ah == bh) = true := by simpa using h3
    clear h3 h2
    go_enter Tryz.func88, Tryz.ntmps88
    go_wp2_with (first | simp only [sub64_0 al bl a3 b3 b4] | simp only [k2])
    all_goals (simp [bodyPost, results, Tryz.results88, go_sem]; exact (by repeat (first | refine Gr.setCell ?_ (by first | omega | (simp; done) | (simp; omega)) _ | refine Gr.alloc ?_ _ | refine Gr.drew ?_ | refine Gr.drewN ?_ _ | with_reducible assumption | with_reducible exact Gr.refl _ | refine Gr.trans ?_ (by with_reducible assumption))))
  · have h5 : (ah == bh) = false := by simpa using h3
    clear h3 h2
    go_enter Tryz.func88, Tryz.ntmps88
    go_wp2_with (first | simp only [sub64_0 al bl a3 b3 b4] | simp only [k2])
    all_goals (simp [bodyPost, results, Tryz.results88, go_sem]; exact (by repeat (first | refine Gr.setCell ?_ (by first | omega | (simp; done) | (simp; omega)) _ | refine Gr.alloc ?_ _ | refine Gr.drew ?_ | refine Gr.drewN ?_ _ | with_reducible assumption | with_reducible exact Gr.refl _ | refine Gr.trans ?_ (by with_reducible assumption))))

set_option maxHeartbeats 1000000 in
theorem wplus_lt (ah al bh bl : Int) (n m : Bool) (w : World) (hn : (n == m) = false) (a1 : 0 ≤ ah) (a2 : ah < 18446744073709551616) (a3 : 0 ≤ al) (a4 : al < 18446744073709551616) (b1 : 0 ≤ bh) (b2 : bh < 18446744073709551616) (b3 : 0 ≤ bl) (b4 : bl < 18446744073709551616) (h2 : ah < bh ∨ (ah = bh ∧ al < bl)) :
    Calls Tryz.prog 88 #[.agg #[.bool n, .int .u64 ah, .int .u64 al], .agg #[.bool m, .int .u64 bh, .int .u64 bl]] w fun e w' =>
      e = .returned (.agg #[.bool (m && bits .or .u64 ((bh - ah - bor bl al) % 18446744073709551616) ((bl - al) % 18446744073709551616) != 0), .int .u64 ((bh - ah - bor bl al) % 18446744073709551616), .int .u64 ((bl - al) % 18446744073709551616)]) ∧ Gr w w' := by
  have k0 : 0 ≤ bor bl al := by unfold bor; split <;> omega
  have k1 : bor bl al ≤ 1 := by unfold bor; split <;> omega
  have k2 : ∀ w, (callFunc 109 #[.int .u64 bh, .int .u64 ah, .int .u64 (bor bl al)]).run Tryz.prog w = .ok (.value (.tuple #[.int .u64 ((bh - ah - bor bl al) % 18446744073709551616), .int .u64 (bor bh (ah + bor bl al))])) w := fun w => sub64 bh ah (bor bl al) b1 a1 a2 k0 k1 w
  have hnm : m = !n := by cases n <;> cases m <;> simp at hn ⊢
  subst hnm
  clear hn
  rcases (show ah < bh ∨ (¬ ah < bh ∧ ah = bh ∧ al < bl) by omega) with h3 | ⟨h3, h4, h6⟩
  · clear h2
    cases n
    all_goals simp only [Bool.not_false, Bool.not_true]
    all_goals
      go_enter Tryz.func88, Tryz.ntmps88
      go_wp2_with (first | simp only [sub64_0 bl al b3 a3 a4] | simp only [k2])
      all_goals (simp [bodyPost, results, Tryz.results88, go_sem]; try exact (by repeat (first | refine Gr.setCell ?_ (by first | omega | (simp; done) | (simp; omega)) _ | refine Gr.alloc ?_ _ | refine Gr.drew ?_ | refine Gr.drewN ?_ _ | with_reducible assumption | with_reducible exact Gr.refl _ | refine Gr.trans ?_ (by with_reducible assumption))))
  · have h5 : (ah == bh) = true := by simpa using h4
    clear h2 h4
    cases n
    all_goals simp only [Bool.not_false, Bool.not_true]
    all_goals
      go_enter Tryz.func88, Tryz.ntmps88
      go_wp2_with (first | simp only [sub64_0 bl al b3 a3 a4] | simp only [k2])
      all_goals (simp [bodyPost, results, Tryz.results88, go_sem]; try exact (by repeat (first | refine Gr.setCell ?_ (by first | omega | (simp; done) | (simp; omega)) _ | refine Gr.alloc ?_ _ | refine Gr.drew ?_ | refine Gr.drewN ?_ _ | with_reducible assumption | with_reducible exact Gr.refl _ | refine Gr.trans ?_ (by with_reducible assumption))))

end Go.Proofs.YthadhmhbbfjomaaGreatDoor
