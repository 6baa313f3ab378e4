/-
  Plain law: binary searches in sorted runs of marked captions, and what a merge by halves asks.
  Conditions: none.
-/
import Derived.Test.YtckmebfgianeoaaDoorMathU
import Derived.Test.YtckmebfgianeoaaDoorMathY
namespace Go.Proofs.YtckmebfgianeoaaDoor
open Go.Sort
set_option linter.unusedVariables false

abbrev RT (x y : TC) : Prop := stR ltT Prod.snd x y = true
abbrev SrtT (L : List TC) : Prop := L.Pairwise (fun x y => stR ltT Prod.snd x y = true)
theorem RT.trans {x y z : TC} (h1 : RT x y) (h2 : RT y z) : RT x z := (stR_swo ltT_swo).trans x y z h1 h2
theorem RT.of_nlt {x y : TC} (ht : x.2 < y.2) (h : ltT y x = false) : RT x y := (stR_iff x y).2 (.inr ⟨h, ht⟩)
theorem RT.of_lt {x y : TC} (h : ltT y x = true) : RT y x := (stR_iff y x).2 (.inl h)
theorem RT.lt {x y : TC} (ht : x.2 < y.2) (h : RT y x) : ltT y x = true := by
  rcases (stR_iff y x).1 h with h | h
  · exact h
  · have := h.2; omega
theorem RT.nlt {x y : TC} (ht : x.2 < y.2) (h : RT x y) : ltT y x = false := by
  cases hh : ltT y x with
  | false => rfl
  | true => exact (stR_asymm ltT_swo h (RT.of_lt hh)).elim
theorem at_mem {L : List TC} {k : Nat} (h : k < L.length) : L[k]! ∈ L := by
  rw [getElem!_pos L k h]
  exact List.getElem_mem h
theorem srt_at {L : List TC} (h : SrtT L) {i j : Nat} (hij : i ≤ j) (hj : j < L.length) (z : TC) : (RT L[j]! z → RT L[i]! z) ∧ (RT z L[i]! → RT z L[j]!) := by
  rcases Nat.lt_or_eq_of_le hij with g | g
  · have := pw_at (R := fun x y => stR ltT Prod.snd x y = true) h g hj
    exact ⟨fun h1 => RT.trans this h1, fun h1 => RT.trans h1 this⟩
  · subst g; exact ⟨id, id⟩
theorem srch1 {B : List TC} {x : TC} (hB : SrtT B) (ht : ∀ y ∈ B, x.2 < y.2) {h : Nat} (hh : h < B.length) :
    (ltT B[h]! x = true → ∀ k, k ≤ h → ltT B[k]! x = true) ∧ (ltT B[h]! x = false → ∀ k, h ≤ k → k < B.length → ltT B[k]! x = false) := by
  refine ⟨fun h1 k hk => RT.lt (ht _ (at_mem (by omega))) ((srt_at hB hk hh x).1 (RT.of_lt h1)), fun h1 k hk hkl => ?_⟩
  exact RT.nlt (ht _ (at_mem hkl)) ((srt_at hB hk hkl x).2 (RT.of_nlt (ht _ (at_mem hh)) h1))
theorem srch2 {A : List TC} {y : TC} (hA : SrtT A) (ht : ∀ x ∈ A, x.2 < y.2) {h : Nat} (hh : h < A.length) :
    (ltT y A[h]! = false → ∀ k, k ≤ h → ltT y A[k]! = false) ∧ (ltT y A[h]! = true → ∀ k, h ≤ k → k < A.length → ltT y A[k]! = true) := by
  refine ⟨fun h1 k hk => RT.nlt (ht _ (at_mem (by omega))) ((srt_at hA hk hh y).1 (RT.of_nlt (ht _ (at_mem hh)) h1)), fun h1 k hk hkl => ?_⟩
  exact RT.lt (ht _ (at_mem hkl)) ((srt_at hA hk hkl y).2 (RT.of_lt h1))
theorem put1 {B : List TC} {x : TC} {t : Nat} (hB : SrtT B) (ht : ∀ y ∈ B, x.2 < y.2) (h1 : ∀ i, i < t → i < B.length → ltT B[i]! x = true) (h2 : ∀ i, t ≤ i → i < B.length → ltT B[i]! x = false) : SrtT (B.take t ++ x :: B.drop t) :=
  one_in (R := fun x y => stR ltT Prod.snd x y = true) hB (fun i a b => RT.of_lt (h1 i a b)) (fun i a b => RT.of_nlt (ht _ (at_mem b)) (h2 i a b))
theorem put2 {A : List TC} {y : TC} {t : Nat} (hA : SrtT A) (ht : ∀ x ∈ A, x.2 < y.2) (h1 : ∀ i, i < t → i < A.length → ltT y A[i]! = false) (h2 : ∀ i, t ≤ i → i < A.length → ltT y A[i]! = true) : SrtT (A.take t ++ y :: A.drop t) :=
  one_in (R := fun x y => stR ltT Prod.snd x y = true) hA (fun i a b => RT.of_nlt (ht _ (at_mem b)) (h1 i a b)) (fun i a b => RT.of_lt (h2 i a b))
/-- one element of a list on its way through B -/
theorem step_up {d : Array TC} {P B Q : List TC} {x : TC} {r : Nat} (hr : r < B.length) (hd : d.toList = P ++ ((B.take r ++ x :: B.drop r) ++ Q)) :
    (swp d (P.length + r) (P.length + r + 1)).toList = P ++ ((B.take (r + 1) ++ x :: B.drop (r + 1)) ++ Q) := by
  have h1 : d.toList = (P ++ B.take r) ++ x :: ([] ++ B[r] :: (B.drop (r + 1) ++ Q)) := by
    rw [hd, List.drop_eq_getElem_cons hr]; simp only [List.append_assoc, List.cons_append, List.nil_append]
  have h2 := swp_list h1
  have e1 : (P ++ B.take r).length = P.length + r := by rw [List.length_append, List.length_take]; omega
  rw [e1] at h2
  simp only [List.length_nil, Nat.add_zero] at h2
  rw [h2, ← List.take_append_getElem hr]; simp only [List.append_assoc, List.cons_append, List.nil_append]
theorem step_down {d : Array TC} {P A Q : List TC} {y : TC} {r : Nat} (hr : r < A.length) (hd : d.toList = P ++ ((A.take (r + 1) ++ y :: A.drop (r + 1)) ++ Q)) :
    (swp d (P.length + r + 1) (P.length + r)).toList = P ++ ((A.take r ++ y :: A.drop r) ++ Q) := by
  have h1 : d.toList = (P ++ A.take r) ++ A[r] :: ([] ++ y :: (A.drop (r + 1) ++ Q)) := by
    rw [hd, ← List.take_append_getElem hr]; simp only [List.append_assoc, List.cons_append, List.nil_append]
  have h2 := swp_back h1
  have e1 : (P ++ A.take r).length = P.length + r := by rw [List.length_append, List.length_take]; omega
  rw [e1] at h2
  simp only [List.length_nil, Nat.add_zero] at h2
  rw [h2, List.drop_eq_getElem_cons hr]; simp only [List.append_assoc, List.cons_append, List.nil_append]
end Go.Proofs.YtckmebfgianeoaaDoor
