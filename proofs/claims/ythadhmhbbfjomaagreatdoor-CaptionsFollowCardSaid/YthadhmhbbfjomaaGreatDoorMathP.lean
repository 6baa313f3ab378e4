
/-
  Plain lists of bytes: decimal numerals, and the text of a fraction. No program in sight.
  Conditions: none.
-/
import Derived.Test.YthadhmhbbfjomaaGreatDoorMathH
import Derived.Lib.ItoaNum
import Derived.Lib.ItoaMem
import Derived.Lib.ParseIntBTie
import Derived.Lib.ParseIntBCases
import Derived.Lib.AtoiAllCases
import Derived.Lib.Bytealg
namespace Go.Proofs.YthadhmhbbfjomaaGreatDoor
open Go.RowKit Go.Lib
set_option linter.unusedVariables false

/-- a byte that is a digit -/
def isD (c : UInt8) : Prop := 48 ≤ c.toNat ∧ c.toNat ≤ 57
theorem digit_byte {k : Nat} (h : k < 10) : (UInt8.ofNat (48 + k)).toNat = 48 + k := by simp [UInt8.toNat_ofNat]; omega
theorem dec_digits : ∀ (u : Nat), ∀ c ∈ decDigits u, isD c := by
  intro u
  induction u using Nat.strongRecOn with
  | _ u ih =>
    intro c hc
    rw [decDigits] at hc
    split at hc
    · rename_i h
      rw [List.mem_singleton.1 hc]
      unfold isD
      rw [digit_byte h]; omega
    · rename_i h
      rcases List.mem_append.1 hc with hc | hc
      · exact ih (u / 10) (by omega) c hc
      · rw [List.mem_singleton.1 hc]
        unfold isD
        rw [digit_byte (Nat.mod_lt u (by omega))]; omega
theorem dec_ne (u : Nat) : decDigits u ≠ [] := by
  intro h
  have := decDigits_length u
  rw [h] at this
  have := nDigits_pos u
  simp at *
  omega
/-- what digits spell -/
def dval (acc : Nat) : List UInt8 → Nat
  | [] => acc
  | c :: r => dval (acc * 10 + (c.toNat - 48)) r
theorem dval_append (l r : List UInt8) : ∀ (acc : Nat), dval acc (l ++ r) = dval (dval acc l) r := by
  induction l with
  | nil => intro acc; rfl
  | cons c l ih => intro acc; exact ih (acc * 10 + (c.toNat - 48))
theorem dval_one (a k : Nat) (h : k < 10) : dval a [UInt8.ofNat (48 + k)] = a * 10 + k := by
  have e := digit_byte h
  have : dval a [UInt8.ofNat (48 + k)] = a * 10 + ((UInt8.ofNat (48 + k)).toNat - 48) := rfl
  rw [this, e]
  omega
theorem dval_dec (u : Nat) : dval 0 (decDigits u) = u := by
  induction u using Nat.strongRecOn with
  | _ u ih =>
    by_cases h : u < 10
    · rw [decDigits_one h, dval_one 0 u h]
      omega
    · have e : decDigits u = decDigits (u / 10) ++ [UInt8.ofNat (48 + u % 10)] := by
        rw [decDigits, dif_neg h]
      rw [e, dval_append, ih (u / 10) (by omega), dval_one _ _ (Nat.mod_lt u (by omega))]
      omega
theorem dval_ge (l : List UInt8) : ∀ (acc : Nat), acc ≤ dval acc l := by
  induction l with
  | nil => intro acc; exact Nat.le_refl _
  | cons c l ih =>
    intro acc
    have h := ih (acc * 10 + (c.toNat - 48))
    have e : dval acc (c :: l) = dval (acc * 10 + (c.toNat - 48)) l := rfl
    rw [e]
    omega
theorem parse_digits (l : List UInt8) : ∀ (acc : Nat), (∀ c ∈ l, isD c) → dval acc l < 18446744073709551616 → parseUint10 acc l = .ok (dval acc l) := by
  induction l with
  | nil => intro acc _ _; rfl
  | cons c r ih =>
    intro acc hd hv
    have h1 := hd c (List.mem_cons_self ..)
    have h2 := dval_ge r (acc * 10 + (c.toNat - 48))
    have e : dval acc (c :: r) = dval (acc * 10 + (c.toNat - 48)) r := rfl
    rw [e] at hv ⊢
    unfold isD at h1
    rw [parseUint10, if_pos h1, if_neg (by omega), if_neg (by omega)]
    exact ih _ (fun x hx => hd x (List.mem_cons_of_mem _ hx)) hv
theorem parseMag_dec (u : Nat) (h : u < 18446744073709551616) : parseMag (decDigits u) = .ok u := by
  unfold parseMag
  rw [if_neg (dec_ne u), parse_digits _ _ (dec_digits u) (by rw [dval_dec]; exact h), dval_dec]
theorem dec_cons (u : Nat) : ∃ c r, decDigits u = c :: r ∧ isD c ∧ ∀ x ∈ r, isD x := by
  have h := dec_digits u
  cases hl : decDigits u with
  | nil => exact absurd hl (dec_ne u)
  | cons c r =>
    rw [hl] at h
    exact ⟨c, r, rfl, h c (List.mem_cons_self ..), fun x hx => h x (List.mem_cons_of_mem _ hx)⟩
theorem parse_itoa (n : Int) (h0 : -9223372036854775808 ≤ n) (h1 : n ≤ 9223372036854775807) : parseIntB 64 (itoa n) = .ok n := by
  rw [parseIntB_64]
  unfold itoa
  by_cases hn : n < 0
  · rw [if_pos hn, atoiAll_minus, parseMag_dec _ (by omega)]
    simp only [signed]
    rw [if_neg (by omega)]
    congr 1
    omega
  · rw [if_neg hn]
    obtain ⟨c, r, e, hc, _⟩ := dec_cons n.toNat
    have hp := parseMag_dec n.toNat (by omega)
    rw [e] at hp ⊢
    unfold isD at hc
    rw [atoiAll_plain c r (by omega) (by omega), hp]
    simp only [signless]
    rw [if_neg (by omega)]
    congr 1
    omega
theorem itoa_inj {a b : Int} (ha : -9223372036854775808 ≤ a ∧ a ≤ 9223372036854775807) (hb : -9223372036854775808 ≤ b ∧ b ≤ 9223372036854775807) (h : itoa a = itoa b) : a = b := by
  have x := parse_itoa a ha.1 ha.2
  rw [h, parse_itoa b hb.1 hb.2] at x
  injection x with x
  exact x.symm
theorem itoa_mem {n : Int} {c : UInt8} (h : c ∈ itoa n) : c = 45 ∨ isD c := by
  unfold itoa at h
  split at h
  · rcases List.mem_cons.1 h with h | h
    · exact .inl h
    · exact .inr (dec_digits _ c h)
  · exact .inr (dec_digits _ c h)
theorem itoa_no_slash (n : Int) : (47 : UInt8) ∉ itoa n := by
  intro h
  rcases itoa_mem h with h | h
  · exact absurd h (by decide)
  · unfold isD at h
    exact absurd h.1 (by decide)
theorem itoa_ne (n : Int) : itoa n ≠ [] := by
  unfold itoa
  split
  · simp
  · exact dec_ne _

/-- the text of a fraction -/
def fmtL (n d : Int) : List UInt8 := itoa n ++ if d = 1 then [] else 47 :: itoa d
theorem index_none : ∀ (l : List UInt8) (c : UInt8), c ∉ l → indexByte l c = -1
  | [], _, _ => rfl
  | b :: l, c, h => by
    have h1 : ¬ b = c := fun e => h (by rw [e]; exact List.mem_cons_self ..)
    have h2 := index_none l c (fun hm => h (List.mem_cons_of_mem _ hm))
    rw [indexByte, h2]
    simp [h1]
theorem index_at : ∀ (l r : List UInt8) (c : UInt8), c ∉ l → indexByte (l ++ c :: r) c = l.length
  | [], r, c, _ => by rw [List.nil_append, indexByte]; simp
  | b :: l, r, c, h => by
    have h1 : ¬ b = c := fun e => h (by rw [e]; exact List.mem_cons_self ..)
    have h2 := index_at l r c (fun hm => h (List.mem_cons_of_mem _ hm))
    rw [List.cons_append, indexByte, h2]
    simp [h1]
    try omega
theorem fmt_split (n d : Int) : (d = 1 ∧ fmtL n d = itoa n ∧ indexByte (fmtL n d) 47 = -1) ∨ (d ≠ 1 ∧ fmtL n d = itoa n ++ 47 :: itoa d ∧ indexByte (fmtL n d) 47 = (itoa n).length) := by
  unfold fmtL
  by_cases h : d = 1
  · rw [if_pos h, List.append_nil]
    exact .inl ⟨h, rfl, index_none _ _ (itoa_no_slash n)⟩
  · rw [if_neg h]
    exact .inr ⟨h, rfl, index_at _ _ _ (itoa_no_slash n)⟩
theorem fmt_inj {a b c d : Int} (ha : -9223372036854775808 ≤ a ∧ a ≤ 9223372036854775807) (hb : -9223372036854775808 ≤ b ∧ b ≤ 9223372036854775807) (hc : -9223372036854775808 ≤ c ∧ c ≤ 9223372036854775807) (hd : -9223372036854775808 ≤ d ∧ d ≤ 9223372036854775807) (h : fmtL a b = fmtL c d) : a = c ∧ b = d := by
  rcases fmt_split a b with ⟨e1, f1, i1⟩ | ⟨e1, f1, i1⟩ <;> rcases fmt_split c d with ⟨e2, f2, i2⟩ | ⟨e2, f2, i2⟩
  · rw [f1, f2] at h
    exact ⟨itoa_inj ha hc h, by omega⟩
  · rw [h, i2] at i1
    omega
  · rw [h, i2] at i1
    omega
  · have hl : (itoa a).length = (itoa c).length := by rw [h, i2] at i1; omega
    rw [f1, f2] at h
    obtain ⟨h1, h2⟩ := List.append_inj h hl
    injection h2 with _ h2
    exact ⟨itoa_inj ha hc h1, itoa_inj hb hd h2⟩
theorem fmt_ne (n d : Int) : fmtL n d ≠ [] := by
  unfold fmtL
  intro h
  exact itoa_ne n (List.append_eq_nil_iff.1 h).1

/-- what number reads: at most f more digits; n: what the digits before spell; k: how many they are -/
def numF : Nat → Nat → Nat → List UInt8 → Option (Nat × Nat)
  | 0, n, k, _ => some (n, k)
  | f + 1, n, k, [] => some (n, k)
  | f + 1, n, k, c :: r => if 48 ≤ c.toNat ∧ c.toNat ≤ 57 then (if (9223372036854775807 - (c.toNat - 48)) / 10 < n then none else numF f (10 * n + (c.toNat - 48)) (k + 1) r) else some (n, k)
theorem numF_cons (f n k : Nat) (c : UInt8) (r : List UInt8) : numF (f + 1) n k (c :: r) = if 48 ≤ c.toNat ∧ c.toNat ≤ 57 then (if (9223372036854775807 - (c.toNat - 48)) / 10 < n then none else numF f (10 * n + (c.toNat - 48)) (k + 1) r) else some (n, k) := by rw [numF]
theorem numF_nil (f n k : Nat) : numF f n k [] = some (n, k) := by cases f <;> rw [numF]
theorem numF_zero (n k : Nat) (l : List UInt8) : numF 0 n k l = some (n, k) := by rw [numF]
theorem numF_digits (l : List UInt8) : ∀ (f n k : Nat) (t : List UInt8), (∀ c ∈ l, isD c) → l.length ≤ f → dval n l ≤ 9223372036854775807 → (∀ c r, t = c :: r → ¬ isD c) →
    numF f n k (l ++ t) = some (dval n l, k + l.length) := by
  induction l with
  | nil =>
    intro f n k t _ _ _ ht
    rw [List.nil_append]
    cases f with
    | zero => rw [numF_zero]; rfl
    | succ f =>
      cases t with
      | nil => rw [numF_nil]; rfl
      | cons c r =>
        have := ht c r rfl
        unfold isD at this
        rw [numF_cons, if_neg this]
        rfl
  | cons c l ih =>
    intro f n k t hd hf hv ht
    have h1 := hd c (List.mem_cons_self ..)
    simp only [List.length_cons] at hf
    obtain ⟨f, rfl⟩ : ∃ g, f = g + 1 := ⟨f - 1, by omega⟩
    have e : dval n (c :: l) = dval (n * 10 + (c.toNat - 48)) l := rfl
    rw [e] at hv ⊢
    have h2 := dval_ge l (n * 10 + (c.toNat - 48))
    unfold isD at h1
    rw [List.cons_append, numF_cons, if_pos h1, if_neg (by omega), Nat.mul_comm 10 n, ih f _ _ t (fun x hx => hd x (List.mem_cons_of_mem _ hx)) (by omega) hv ht]
    simp only [List.length_cons]
    rw [show k + 1 + l.length = k + (l.length + 1) by omega]
theorem numF_le (l : List UInt8) : ∀ (f n k : Nat) (m j : Nat), n ≤ 9223372036854775807 → numF f n k l = some (m, j) → m ≤ 9223372036854775807 ∧ k ≤ j ∧ j ≤ k + l.length ∧ j ≤ k + f := by
  induction l with
  | nil =>
    intro f n k m j hn h
    rw [numF_nil] at h
    injection h with h
    injection h with h1 h2
    subst h1 h2
    exact ⟨hn, by omega, by omega, by omega⟩
  | cons c r ih =>
    intro f n k m j hn h
    cases f with
    | zero =>
      rw [numF_zero] at h
      injection h with h
      injection h with h1 h2
      subst h1 h2
      exact ⟨hn, by omega, by omega, by omega⟩
    | succ f =>
      rw [numF_cons] at h
      simp only [List.length_cons]
      by_cases hd : 48 ≤ c.toNat ∧ c.toNat ≤ 57
      · rw [if_pos hd] at h
        by_cases ho : (9223372036854775807 - (c.toNat - 48)) / 10 < n
        · rw [if_pos ho] at h; cases h
        · rw [if_neg ho] at h
          have := ih f _ _ m j (by omega) h
          omega
      · rw [if_neg hd] at h
        injection h with h
        injection h with h1 h2
        subst h1 h2
        exact ⟨hn, by omega, by omega, by omega⟩
theorem dec_short (u : Nat) (h : u ≤ 9223372036854775807) : (decDigits u).length ≤ 19 := by
  rw [decDigits_length]
  rcases Nat.lt_or_ge 19 (nDigits u) with hh | hh
  · exfalso
    have h1 : ∀ k v : Nat, v < 10 ^ k → 0 < k → nDigits v ≤ k := by
      intro k
      induction k with
      | zero => intro v _ h0; omega
      | succ k ih =>
        intro v hv _
        by_cases hs : v < 10
        · rw [nDigits_small hs]; omega
        · rw [nDigits_big hs]
          rw [Nat.pow_succ] at hv
          by_cases hk : 0 < k
          · have := ih (v / 10) (by omega) hk
            omega
          · obtain rfl : k = 0 := by omega
            simp at hv
            omega
    have := h1 19 u (by omega) (by omega)
    omega
  · exact hh
end Go.Proofs.YthadhmhbbfjomaaGreatDoor
