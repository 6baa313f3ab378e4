/-
  Plain arithmetic: the division of two words by one, digit by digit. No program in sight.
  Conditions: none.
-/
import Derived.Test.YtclfiaemjdflbaaDoorMathB
import Derived.Lib.BitFns
import Derived.Laws.BitsAllLaws
namespace Go.Proofs.YtclfiaemjdflbaaDoor
open Go.RowKit
set_option linter.unusedVariables false

theorem div_all (n y s U un0 B : Nat) (hy : 0 < y) (hn : n * 2 ^ s = U * B + un0) :
    n / y = U / (y * 2 ^ s) * B + (U % (y * 2 ^ s) * B + un0) / (y * 2 ^ s) ∧
    n % y = ((U % (y * 2 ^ s) * B + un0) % (y * 2 ^ s)) / 2 ^ s := by
  have hp : 0 < 2 ^ s := Nat.two_pow_pos s
  have hd : 0 < y * 2 ^ s := Nat.mul_pos hy hp
  have e1 : n / y = n * 2 ^ s / (y * 2 ^ s) := (Nat.mul_div_mul_right _ _ hp).symm
  have e2 : n % y = (n * 2 ^ s % (y * 2 ^ s)) / 2 ^ s := by rw [Nat.mul_mod_mul_right, Nat.mul_div_cancel _ hp]
  have hm := Nat.div_add_mod U (y * 2 ^ s)
  have e3 : n * 2 ^ s = (U % (y * 2 ^ s) * B + un0) + (y * 2 ^ s) * (U / (y * 2 ^ s) * B) := by
    rw [hn, ← Nat.mul_assoc, Nat.add_right_comm, ← Nat.add_mul, Nat.add_comm (U % (y * 2 ^ s)), hm]
  refine ⟨?_, ?_⟩
  · rw [e1, e3, Nat.add_mul_div_left _ _ hd, Nat.add_comm]
  · rw [e2, e3, Nat.add_mul_mod_self_left]

/-- the quotient digit of (u * 2^32 + d) by yv -/
def dgt (u d yv : Int) : Int := (u * 4294967296 + d) / yv
/-- and the rest -/
def rst (u d yv : Int) : Int := (u * 4294967296 + d) % yv
theorem dgt_cont {yv yn1 yn0 u d q r : Int} (hy : yv = yn1 * 4294967296 + yn0) (hy0 : 0 < yv) (hu : u < yv) (hd : d < 4294967296)
    (hinv : q * yn1 + r = u) (hc : 4294967296 ≤ q ∨ 4294967296 * r + d < q * yn0) : dgt u d yv < q := by
  have e : q * yv = q * yn1 * 4294967296 + q * yn0 := by rw [hy, Int.mul_add, Int.mul_assoc]
  unfold dgt
  apply Int.ediv_lt_of_lt_mul hy0
  rcases hc with hc | hc
  · have : 4294967296 * yv ≤ q * yv := Int.mul_le_mul_of_nonneg_right hc (by omega)
    omega
  · omega
theorem dgt_stop {yv yn1 yn0 u d q r : Int} (hy : yv = yn1 * 4294967296 + yn0) (hy0 : 0 < yv)
    (hinv : q * yn1 + r = u) (ht : dgt u d yv ≤ q) (hc : q * yn0 ≤ 4294967296 * r + d) : q = dgt u d yv := by
  have e : q * yv = q * yn1 * 4294967296 + q * yn0 := by rw [hy, Int.mul_add, Int.mul_assoc]
  have h : q ≤ dgt u d yv := by
    unfold dgt
    apply Int.le_ediv_of_mul_le hy0
    omega
  omega
theorem dgt_break {yv yn1 yn0 u d q r : Int} (hy : yv = yn1 * 4294967296 + yn0) (hy0 : 0 < yv) (h1 : 0 < yn1) (h0 : 0 ≤ yn0) (h0' : yn0 < 4294967296) (hu : u < yv) (hd0 : 0 ≤ d)
    (hq : 0 ≤ q) (hr : 4294967296 ≤ r) (hinv : q * yn1 + r = u) (ht : dgt u d yv ≤ q) : q = dgt u d yv := by
  have hq : q < 4294967296 := by
    have h : q * yn1 < 4294967296 * yn1 := by omega
    exact Int.lt_of_mul_lt_mul_right h (by omega)
  have h2 : q * yn0 ≤ q * 4294967296 := Int.mul_le_mul_of_nonneg_left (by omega) (by omega)
  exact dgt_stop hy hy0 hinv ht (by omega)
theorem dgt_nonneg {u d yv : Int} (hu : 0 ≤ u) (hd : 0 ≤ d) (hy : 0 < yv) : 0 ≤ dgt u d yv := Int.ediv_nonneg (by omega) (by omega)
theorem rst_nonneg {u d yv : Int} (hy : 0 < yv) : 0 ≤ rst u d yv := Int.emod_nonneg _ (by omega)
theorem rst_lt {u d yv : Int} (hy : 0 < yv) : rst u d yv < yv := Int.emod_lt_of_pos _ hy
theorem dgt_lt {u d yv : Int} (hu : u < yv) (hd : d < 4294967296) (hy : 0 < yv) : dgt u d yv < 4294967296 := by
  unfold dgt
  exact Int.ediv_lt_of_lt_mul hy (by omega)
/-- what the first guess of a digit satisfies -/
theorem dgt_guess {u d yv yn1 yn0 : Int} (hy : yv = yn1 * 4294967296 + yn0) (h1 : 0 < yn1) (h0 : 0 ≤ yn0) (hu0 : 0 ≤ u) (hd0 : 0 ≤ d) (hd : d < 4294967296) : dgt u d yv ≤ u / yn1 := by
  have hq := Int.mul_ediv_add_emod u yn1
  have hr := Int.emod_lt_of_pos u h1
  have hr0 := Int.emod_nonneg u (show yn1 ≠ 0 by omega)
  have hq0 : 0 ≤ u / yn1 := Int.ediv_nonneg hu0 (by omega)
  generalize u / yn1 = q at *
  generalize u % yn1 = r at *
  unfold dgt
  apply Int.le_of_lt_add_one
  apply Int.ediv_lt_of_lt_mul (by omega)
  have e : (q + 1) * yv = (yn1 * q) * 4294967296 + q * yn0 + yv := by rw [hy, Int.add_mul, Int.one_mul, Int.mul_add, Int.mul_comm yn1 q, Int.mul_assoc]
  have : 0 ≤ q * yn0 := Int.mul_nonneg hq0 h0
  rw [e]
  omega

theorem dgt_rst (u d yv : Int) : u * 4294967296 + d = dgt u d yv * yv + rst u d yv := by
  have := Int.mul_ediv_add_emod (u * 4294967296 + d) yv
  unfold dgt rst
  rw [Int.mul_comm] at this
  omega
theorem bitLen_bounds : ∀ (f x : Nat), f ≤ 64 → x < 2 ^ f → 0 < x → 2 ^ Lib.bitLen x ≤ 2 * x ∧ x < 2 ^ Lib.bitLen x
  | 0, x, _, h, h0 => by simp at h; omega
  | f + 1, x, hf, h, h0 => by
    have h64 : x < 2 ^ 64 := Nat.lt_of_lt_of_le h (Nat.pow_le_pow_right (by omega) hf)
    rw [Lib.bitLen_half x (by omega) h64]
    by_cases h1 : x / 2 = 0
    · have : x = 1 := by omega
      subst this
      decide
    · obtain ⟨a, b⟩ := bitLen_bounds f (x / 2) (by omega) (by rw [Nat.pow_succ] at h; omega) (by omega)
      rw [Nat.pow_add]
      omega
theorem shift_of (y : Nat) (h0 : 0 < y) (h : y < 18446744073709551616) : ∃ s : Nat, (64 - (Lib.bitLen ((y : Int).toNat) : Int) = (s : Int)) ∧ s ≤ 63 ∧ 9223372036854775808 ≤ y * 2 ^ s ∧ y * 2 ^ s < 18446744073709551616 ∧ True := by
  obtain ⟨a, b⟩ := bitLen_bounds 64 y (by omega) h h0
  have hl := Lib.bitLen_le y 64 (by omega) h
  have hl0 : 1 ≤ Lib.bitLen y := by
    rcases Nat.eq_zero_or_pos (Lib.bitLen y) with e | e
    · rw [e] at b; simp at b; omega
    · exact e
  refine ⟨64 - Lib.bitLen y, by rw [Int.toNat_natCast]; omega, by omega, ?_, ?_, trivial⟩
  · have e : 2 ^ Lib.bitLen y * 2 ^ (64 - Lib.bitLen y) = 18446744073709551616 := by rw [← Nat.pow_add, show Lib.bitLen y + (64 - Lib.bitLen y) = 64 by omega]
    have := Nat.mul_le_mul_right (2 ^ (64 - Lib.bitLen y)) a
    rw [e, Nat.mul_assoc] at this
    omega
  · have e : 2 ^ Lib.bitLen y * 2 ^ (64 - Lib.bitLen y) = 18446744073709551616 := by rw [← Nat.pow_add, show Lib.bitLen y + (64 - Lib.bitLen y) = 64 by omega]
    have := Nat.mul_lt_mul_of_pos_right b (Nat.two_pow_pos (64 - Lib.bitLen y))
    rw [e] at this
    exact this
theorem shift_words (hi lo y s : Nat) (hs : s ≤ 63) (h2 : hi < y) (h4 : lo < 18446744073709551616) (hy : y * 2 ^ s < 18446744073709551616) :
    (hi * 18446744073709551616 + lo) * 2 ^ s = (hi * 2 ^ s + lo / 2 ^ (64 - s)) * 18446744073709551616 + lo * 2 ^ s % 18446744073709551616 ∧
    hi * 2 ^ s + lo / 2 ^ (64 - s) < y * 2 ^ s ∧ lo / 2 ^ (64 - s) < 2 ^ s ∧ hi * 2 ^ s ||| lo / 2 ^ (64 - s) = hi * 2 ^ s + lo / 2 ^ (64 - s) := by
  have e64 : 2 ^ (64 - s) * 2 ^ s = 18446744073709551616 := by rw [← Nat.pow_add, show 64 - s + s = 64 by omega]
  have e1 : lo * 2 ^ s / 18446744073709551616 = lo / 2 ^ (64 - s) := by rw [← e64, Nat.mul_div_mul_right _ _ (Nat.two_pow_pos s)]
  have e2 : lo / 2 ^ (64 - s) < 2 ^ s := by
    rw [Nat.div_lt_iff_lt_mul (Nat.two_pow_pos _), Nat.mul_comm, e64]
    exact h4
  have e3 : (hi + 1) * 2 ^ s ≤ y * 2 ^ s := Nat.mul_le_mul_right _ h2
  rw [Nat.add_mul, Nat.one_mul] at e3
  refine ⟨?_, by omega, e2, nat_join s _ _ (Nat.mul_mod_left _ _) e2⟩
  rw [Nat.add_mul, Nat.add_mul, Nat.mul_right_comm]
  omega
theorem div_words_aux (n y s U d1 d0 B : Nat) (Bi N P : Int) (hB : Bi = (B : Int)) (hN : N = (n : Int)) (hP : P = ((2 ^ s : Nat) : Int)) (hy : 0 < y) (hn : n * 2 ^ s = (U * B + d1) * B + d0) :
    ((U : Int) * Bi + (d1 : Int)) / ((y * 2 ^ s : Nat) : Int) * Bi + (((U : Int) * Bi + (d1 : Int)) % ((y * 2 ^ s : Nat) : Int) * Bi + (d0 : Int)) / ((y * 2 ^ s : Nat) : Int) = N / (y : Int) ∧
    ((((U : Int) * Bi + (d1 : Int)) % ((y * 2 ^ s : Nat) : Int) * Bi + (d0 : Int)) % ((y * 2 ^ s : Nat) : Int)) / P = N % (y : Int) := by
  subst hB hN hP
  obtain ⟨e1, e2⟩ := div_all n y s (U * B + d1) d0 B hy hn
  refine ⟨?_, ?_⟩
  · rw [← Int.natCast_ediv n y, e1]
    simp only [Int.natCast_add, Int.natCast_mul, Int.natCast_ediv, Int.natCast_emod]
  · rw [← Int.natCast_emod n y, e2]
    simp only [Int.natCast_add, Int.natCast_mul, Int.natCast_ediv, Int.natCast_emod]
theorem div_words (hi lo y s U : Nat) (hy : 0 < y) (hn : (hi * 18446744073709551616 + lo) * 2 ^ s = U * 18446744073709551616 + lo * 2 ^ s % 18446744073709551616) :
    Hid (dgt U ((lo * 2 ^ s % 18446744073709551616 / 4294967296 : Nat) : Int) ((y * 2 ^ s : Nat) : Int) * 4294967296 + dgt (rst U ((lo * 2 ^ s % 18446744073709551616 / 4294967296 : Nat) : Int) ((y * 2 ^ s : Nat) : Int)) ((lo * 2 ^ s % 18446744073709551616 % 4294967296 : Nat) : Int) ((y * 2 ^ s : Nat) : Int) = ((hi : Int) * 18446744073709551616 + lo) / y) ∧
    Hid (rst (rst U ((lo * 2 ^ s % 18446744073709551616 / 4294967296 : Nat) : Int) ((y * 2 ^ s : Nat) : Int)) ((lo * 2 ^ s % 18446744073709551616 % 4294967296 : Nat) : Int) ((y * 2 ^ s : Nat) : Int) / 2 ^ (s : Int).toNat = ((hi : Int) * 18446744073709551616 + lo) % y) := by
  generalize hv : lo * 2 ^ s % 18446744073709551616 = v at *
  exact div_words_aux (hi * 18446744073709551616 + lo) y s U (v / 4294967296) (v % 4294967296) 4294967296 4294967296 _ _ (by omega) (by omega) (by simp) hy (by rw [hn]; omega)

theorem mod_words (hi lo y : Int) : (hi % y * 18446744073709551616 + lo) % y = (hi * 18446744073709551616 + lo) % y := by
  rw [Int.add_emod, Int.mul_emod, Int.emod_emod_of_dvd _ (Int.dvd_refl y), ← Int.mul_emod, ← Int.add_emod]
end Go.Proofs.YtclfiaemjdflbaaDoor
