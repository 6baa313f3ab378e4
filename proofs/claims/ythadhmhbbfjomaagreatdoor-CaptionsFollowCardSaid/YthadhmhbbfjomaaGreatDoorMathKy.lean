/-
  Plain law of the keys of a carrier: an end and lines, told apart by their text.
  Conditions: the ends are from 0 to 999; no line has a byte 10.
-/
import Derived.Lib.Join
import Derived.Lib.ItoaNum
import Derived.Lib.ParseIntBCases
namespace Go.Proofs.YthadhmhbbfjomaaGreatDoor
open Go.Lib
set_option linter.unusedSimpArgs false
set_option linter.unusedVariables false

/-- words with a byte between them -/
def jnK (x : UInt8) : List (List UInt8) → List UInt8
  | [] => []
  | [p] => p
  | p :: q :: r => p ++ x :: jnK x (q :: r)
theorem jnK_cons (x : UInt8) (p : List UInt8) {l : List (List UInt8)} (h : l ≠ []) : jnK x (p :: l) = p ++ x :: jnK x l := by
  cases l with
  | nil => exact absurd rfl h
  | cons q r => rfl
/-- a text divided at a byte, byte for byte -/
def dvK (x : UInt8) (c : List UInt8) : List UInt8 → List (List UInt8)
  | [] => [c]
  | b :: r => if b = x then c :: dvK x [] r else dvK x (c ++ [b]) r
theorem dvK_piece (x : UInt8) : ∀ (p c r : List UInt8), x ∉ p → dvK x c (p ++ r) = dvK x (c ++ p) r
  | [], c, r, _ => by simp
  | b :: p, c, r, h => by
    rw [List.cons_append, dvK, if_neg (fun e => h (by simp [e])), dvK_piece x p (c ++ [b]) r (fun e => h (List.mem_cons_of_mem _ e))]
    simp
theorem dvK_jn (x : UInt8) : ∀ (ps : List (List UInt8)), ps ≠ [] → (∀ p ∈ ps, x ∉ p) → dvK x [] (jnK x ps) = ps
  | [], h, _ => absurd rfl h
  | [p], _, h => by
    have := dvK_piece x p [] [] (h p (by simp))
    rw [List.append_nil] at this
    show dvK x [] p = [p]
    rw [this]
    rfl
  | p :: q :: r, _, h => by
    rw [jnK_cons x p (by simp), dvK_piece x p [] _ (h p (by simp)), dvK, if_pos rfl, dvK_jn x (q :: r) (by simp) (fun p hp => h p (List.mem_cons_of_mem _ hp))]
    rfl
theorem join_jnK : ∀ {ss : List (List UInt8)}, ss ≠ [] → join ss [10] = jnK 10 ss
  | [], h => absurd rfl h
  | [p], _ => by rw [join_one]; rfl
  | p :: q :: r, _ => by
    rw [jnK_cons 10 p (by simp), ← join_jnK (ss := q :: r) (by simp)]
    simp [join, List.intercalate]
/-- the key of an end and lines -/
def keyL (e : Int) (ss : List (List UInt8)) : List UInt8 := itoa e ++ 10 :: join ss [10]
theorem itoa_small {e : Int} (h0 : 0 ≤ e) (h1 : e < 1000) : (10 : UInt8) ∉ itoa e ∧ parseIntB 64 (itoa e) = .ok e := by
  have key : ∀ m : Fin 1000, (10 : UInt8) ∉ itoa (m.val : Int) ∧ parseIntB 64 (itoa (m.val : Int)) = .ok (m.val : Int) := by decide +kernel
  have := key ⟨e.toNat, by omega⟩
  simp only at this
  rwa [show ((e.toNat : Nat) : Int) = e by omega] at this
theorem keyL_inj {e e' : Int} {ss ss' : List (List UInt8)} (h0 : 0 ≤ e ∧ e < 1000) (h0' : 0 ≤ e' ∧ e' < 1000) (hs : ss ≠ []) (hs' : ss' ≠ []) (hn : ∀ s ∈ ss, (10 : UInt8) ∉ s) (hn' : ∀ s ∈ ss', (10 : UInt8) ∉ s) (h : keyL e ss = keyL e' ss') : e = e' ∧ ss = ss' := by
  obtain ⟨i1, i2⟩ := itoa_small h0.1 h0.2
  obtain ⟨j1, j2⟩ := itoa_small h0'.1 h0'.2
  unfold keyL at h
  rw [join_jnK hs, join_jnK hs', ← jnK_cons 10 _ hs, ← jnK_cons 10 _ hs'] at h
  have h2 := congrArg (dvK 10 []) h
  rw [dvK_jn 10 _ (by simp) (fun p hp => by
      rcases List.mem_cons.1 hp with rfl | hp
      · exact i1
      · exact hn p hp), dvK_jn 10 _ (by simp) (fun p hp => by
      rcases List.mem_cons.1 hp with rfl | hp
      · exact j1
      · exact hn' p hp)] at h2
  injection h2 with h3 h4
  refine ⟨?_, h4⟩
  rw [h3, j2] at i2
  injection i2 with i2
  exact i2.symm
end Go.Proofs.YthadhmhbbfjomaaGreatDoor
