/-
  Plain law: the number of milliseconds that the reference reads in a text, and near which frame it lies.
  Conditions: none.
-/
import Derived.Test.YtckmebfgianeoaaDoorMathPa
namespace Go.Proofs.YtckmebfgianeoaaDoor
open Go.RowKit Go.Lib
set_option linter.unusedVariables false

def frG : Nat → Int → List UInt8 → Option Int
  | _, q, [] => some q
  | i, q, b :: r => if i = 2 ∨ i = 5 ∨ i = 8 then frG (i + 1) q r else if isDg b = true then frG (i + 1) (if i = 3 ∨ i = 6 then q * 6 + ((b.toNat : Int) - 48) else q * 10 + ((b.toNat : Int) - 48)) r else none
theorem frG_skip {i : Nat} (h : i = 2 ∨ i = 5 ∨ i = 8) (q : Int) (b : UInt8) (r : List UInt8) : frG i q (b :: r) = frG (i + 1) q r := by rw [frG, if_pos h]
theorem frG_dig {i : Nat} (h : ¬ (i = 2 ∨ i = 5 ∨ i = 8)) {b : UInt8} (hb : isDg b = true) (q : Int) (r : List UInt8) : frG i q (b :: r) = frG (i + 1) (if i = 3 ∨ i = 6 then q * 6 + ((b.toNat : Int) - 48) else q * 10 + ((b.toNat : Int) - 48)) r := by rw [frG, if_neg h, if_pos hb]
theorem frG_bad {i : Nat} (h : ¬ (i = 2 ∨ i = 5 ∨ i = 8)) {b : UInt8} (hb : isDg b = false) (q : Int) (r : List UInt8) : frG i q (b :: r) = none := by rw [frG, if_neg h, if_neg (by simp [hb])]
/-- the greatest number that i bytes write -/
def qB (i : Nat) : Int := [0, 9, 99, 99, 603, 6039, 6039, 36243, 362439, 362439, 3624399, 36243999, 362439999].getD i 0
theorem qB_skip {i : Nat} (h : i = 2 ∨ i = 5 ∨ i = 8) {q : Int} (hq : q ≤ qB i) : q ≤ qB (i + 1) := by
  rcases h with rfl | rfl | rfl <;> exact hq
theorem qB_six {i : Nat} (h : i = 3 ∨ i = 6) {q d : Int} (hq : q ≤ qB i) (hd : d ≤ 9) : q * 6 + d ≤ qB (i + 1) := by
  rcases h with rfl | rfl <;> (simp [qB] at *; omega)
theorem qB_ten {i : Nat} (hi : i < 12) (h : ¬ (i = 2 ∨ i = 5 ∨ i = 8)) (h2 : ¬ (i = 3 ∨ i = 6)) {q d : Int} (hq : q ≤ qB i) (hd : d ≤ 9) : q * 10 + d ≤ qB (i + 1) := by
  rcases (show i = 0 ∨ i = 1 ∨ i = 4 ∨ i = 7 ∨ i = 9 ∨ i = 10 ∨ i = 11 by omega) with rfl | rfl | rfl | rfl | rfl | rfl | rfl <;> (simp [qB] at *; omega)
theorem qB_le (i : Nat) : qB i ≤ 362439999 := by
  by_cases h : i < 13
  · rcases (show i = 0 ∨ i = 1 ∨ i = 2 ∨ i = 3 ∨ i = 4 ∨ i = 5 ∨ i = 6 ∨ i = 7 ∨ i = 8 ∨ i = 9 ∨ i = 10 ∨ i = 11 ∨ i = 12 by omega) with rfl | rfl | rfl | rfl | rfl | rfl | rfl | rfl | rfl | rfl | rfl | rfl | rfl <;> simp [qB]
  · unfold qB
    rw [List.getD_eq_getElem?_getD, List.getElem?_eq_none (by simp; omega)]
    simp
theorem dig_of (x : Int) : isDg (UInt8.ofNat (48 + x % 10).toNat) = true ∧ (((UInt8.ofNat (48 + x % 10).toNat).toNat : Nat) : Int) - 48 = x % 10 := by
  have h0 := Int.emod_nonneg x (show (10 : Int) ≠ 0 by omega)
  have h1 := Int.emod_lt_of_pos x (show (0 : Int) < 10 by omega)
  have h2 : (UInt8.ofNat (48 + x % 10).toNat).toNat = (48 + x % 10).toNat := by
    rw [UInt8.toNat_ofNat']
    omega
  unfold isDg
  rw [h2]
  refine ⟨?_, by omega⟩
  simp only [Bool.and_eq_true, decide_eq_true_eq]
  omega
theorem frG_clk {q : Int} (h0 : 0 ≤ q) (h1 : q < 360000000) : frG 0 0 (clkT q) = some q := by
  have key : ∀ a b c d : Int, 0 ≤ a → a < 100 → 0 ≤ b → b < 60 → 0 ≤ c → c < 60 → 0 ≤ d → d < 1000 → frG 0 0 (digL 2 a ++ 58 :: (digL 2 b ++ 58 :: (digL 2 c ++ 44 :: digL 3 d))) = some (((a * 60 + b) * 60 + c) * 1000 + d) := by
    intro a b c d a0 a1 b0 b1 c0 c1 d0 d1
    simp only [digL, List.nil_append, List.cons_append]
    rw [frG_dig (by omega) (dig_of _).1, frG_dig (by omega) (dig_of _).1, frG_skip (by omega), frG_dig (by omega) (dig_of _).1, frG_dig (by omega) (dig_of _).1, frG_skip (by omega), frG_dig (by omega) (dig_of _).1, frG_dig (by omega) (dig_of _).1, frG_skip (by omega), frG_dig (by omega) (dig_of _).1, frG_dig (by omega) (dig_of _).1, frG_dig (by omega) (dig_of _).1, frG]
    simp only [(dig_of _).2]
    simp
    omega
  unfold clkT
  rw [key _ _ _ _ (by omega) (by omega) (by omega) (by omega) (by omega) (by omega) (by omega) (by omega)]
  congr 1
  omega
theorem near_le {n num den : Int} (hs : suB num den = true) (h0 : 0 ≤ n) (h1 : n ≤ 2147483647) : msQ n num den * num / (1000 * den) ≤ n ∧ n ≤ msQ n num den * num / (1000 * den) + 1 := by
  obtain ⟨_, n1, n2, d1, d2, h240⟩ := suB_out hs
  have hb := ms_bounds h0 h1 hs
  have hp := posN_ms (n := n) n1 d1 h240
  have hv : 0 ≤ msQ n num den * num := Int.mul_nonneg hb.2.2.1 (by omega)
  have := msQ_near (v := msQ n num den * num) (num := 1000 * den) (by omega) hv
  unfold posN at hp
  rw [this] at hp
  split at hp <;> omega
theorem clk_inj {m n num den : Int} (hs : suB num den = true) (hm : 0 ≤ m ∧ m ≤ 2147483647) (hn : 0 ≤ n ∧ n ≤ 2147483647) (h1 : msQ m num den < 360000000) (h2 : msQ n num den < 360000000) (h : clkT (msQ m num den) = clkT (msQ n num den)) : m = n := by
  obtain ⟨_, n1, n2, d1, d2, h240⟩ := suB_out hs
  have a := ptP_clk (n := m) n1 d1 h240 (ms_bounds hm.1 hm.2 hs).2.2.1 h1
  have b := ptP_clk (n := n) n1 d1 h240 (ms_bounds hn.1 hn.2 hs).2.2.1 h2
  rw [h, b] at a
  injection a with a
  exact a.symm
theorem near_bound {q num den : Int} (hs : suB num den = true) (h0 : 0 ≤ q) (h1 : q ≤ 362439999) : 0 ≤ q * num / (1000 * den) ∧ q * num / (1000 * den) ≤ 86985600 ∧ q * num ≤ 362439999 * 1048576 ∧ 0 ≤ q * num := by
  obtain ⟨_, n1, n2, d1, d2, h240⟩ := suB_out hs
  have hv : 0 ≤ q * num := Int.mul_nonneg h0 (by omega)
  have h2 : q * num ≤ 362439999 * 1048576 := Int.mul_le_mul h1 n2 (by omega) (by omega)
  refine ⟨Int.ediv_nonneg hv (by omega), ?_, h2, hv⟩
  have h3 : q * num ≤ 362439999 * (240 * den) := Int.mul_le_mul h1 h240 (by omega) (by omega)
  refine Int.ediv_le_of_le_mul (by omega) ?_
  omega
end Go.Proofs.YtckmebfgianeoaaDoor
