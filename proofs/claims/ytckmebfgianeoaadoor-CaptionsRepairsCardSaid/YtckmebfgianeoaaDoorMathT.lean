/-
  Plain law: a stable sort, said with marks on the elements. No program in sight.
  Conditions: none.
-/
import Derived.Sort.LotA
import Derived.Sort.WalkA
namespace Go.Proofs.YtckmebfgianeoaaDoor
open Go.Sort
set_option linter.unusedVariables false

section
variable {α : Type}
/-- less, or as great and marked ahead -/
def stR (lt : α → α → Bool) (tag : α → Nat) (x y : α) : Bool := lt x y || (!lt y x && decide (tag x < tag y))
variable {lt : α → α → Bool} {tag : α → Nat}
theorem stR_iff (x y : α) : stR lt tag x y = true ↔ (lt x y = true ∨ (lt y x = false ∧ tag x < tag y)) := by
  unfold stR
  cases lt x y <;> cases lt y x <;> simp
theorem stR_swo (h : SWO lt) : SWO (stR lt tag) := by
  have nt : ∀ {x y z}, lt x z = true → lt x y = false → lt y z = true := fun {x y z} h1 h2 => by
    cases h3 : lt y z with
    | true => rfl
    | false => rw [h.ntrans x y z h2 h3] at h1; cases h1
  have nt2 : ∀ {x y z}, lt x z = true → lt y z = false → lt x y = true := fun {x y z} h1 h2 => by
    cases h3 : lt x y with
    | true => rfl
    | false => rw [h.ntrans x y z h3 h2] at h1; cases h1
  refine ⟨fun x => ?_, fun x y z h1 h2 => ?_, fun x y z h1 h2 => ?_⟩
  · cases hh : stR lt tag x x with
    | false => rfl
    | true =>
      rcases (stR_iff x x).1 hh with h1 | h1
      · rw [h.irrefl] at h1; cases h1
      · omega
  · rw [stR_iff] at h1 h2 ⊢
    rcases h1 with h1 | h1 <;> rcases h2 with h2 | h2
    · exact .inl (h.trans x y z h1 h2)
    · exact .inl (nt2 h1 h2.1)
    · exact .inl (nt h2 h1.1)
    · exact .inr ⟨h.ntrans z y x h2.1 h1.1, by omega⟩
  · have g1 : ¬ (lt x y = true ∨ (lt y x = false ∧ tag x < tag y)) := fun g => by rw [(stR_iff x y).2 g] at h1; cases h1
    have g2 : ¬ (lt y z = true ∨ (lt z y = false ∧ tag y < tag z)) := fun g => by rw [(stR_iff y z).2 g] at h2; cases h2
    have a1 : lt x y = false := by cases hh : lt x y with
      | false => rfl
      | true => exact absurd (.inl hh) g1
    have a2 : lt y z = false := by cases hh : lt y z with
      | false => rfl
      | true => exact absurd (.inl hh) g2
    cases hh : stR lt tag x z with
    | false => rfl
    | true =>
      rcases (stR_iff x z).1 hh with h3 | ⟨h3, h4⟩
      · rw [h.ntrans x y z a1 a2] at h3; cases h3
      · have b1 : lt y x = false := by cases hk : lt y x with
          | false => rfl
          | true => have := nt2 hk h3; rw [a2] at this; cases this
        have b2 : lt z y = false := by cases hk : lt z y with
          | false => rfl
          | true => have := nt hk h3; rw [a1] at this; cases this
        rcases Nat.lt_or_ge (tag x) (tag y) with c | c
        · exact absurd (.inr ⟨b1, c⟩) g1
        · exact absurd (.inr ⟨b2, by omega⟩) g2
theorem stR_asymm (h : SWO lt) {x y : α} (h1 : stR lt tag x y = true) (h2 : stR lt tag y x = true) : False := by
  have := (stR_swo (tag := tag) h).trans x y x h1 h2
  rw [(stR_swo (tag := tag) h).irrefl] at this
  cases this
theorem stR_total {x y : α} (h : tag x ≠ tag y) (h1 : stR lt tag y x = false) : stR lt tag x y = true := by
  rw [stR_iff]
  have g : ¬ (lt y x = true ∨ (lt x y = false ∧ tag y < tag x)) := fun g => by rw [(stR_iff y x).2 g] at h1; cases h1
  cases a : lt x y with
  | true => exact .inl rfl
  | false =>
    cases b : lt y x with
    | true => exact absurd (.inl b) g
    | false => exact .inr ⟨rfl, by rcases Nat.lt_or_ge (tag x) (tag y) with c | c; exact c; exact absurd (.inr ⟨a, by omega⟩) g⟩
/-- there is one list of the elements in that order -/
theorem stR_unique (h : SWO lt) : ∀ {l1 l2 : List α}, l1.Perm l2 → l1.Pairwise (fun x y => stR lt tag x y = true) → l2.Pairwise (fun x y => stR lt tag x y = true) → l1 = l2
  | [], l2, hp, _, _ => (List.nil_perm.1 hp).symm
  | x :: l1, [], hp, _, _ => by have := hp.length_eq; simp at this
  | x :: l1, y :: l2, hp, h1, h2 => by
    have hx : x = y := by
      rcases List.mem_cons.1 (hp.mem_iff.1 (List.mem_cons_self ..) : x ∈ y :: l2) with e | hm
      · exact e
      rcases List.mem_cons.1 (hp.mem_iff.2 (List.mem_cons_self ..) : y ∈ x :: l1) with e | hn
      · exact e.symm
      exact (stR_asymm h ((List.pairwise_cons.1 h1).1 y hn) ((List.pairwise_cons.1 h2).1 x hm)).elim
    subst hx
    rw [stR_unique h ((List.perm_cons x).1 hp) (List.pairwise_cons.1 h1).2 (List.pairwise_cons.1 h2).2]
end

section
variable {α : Type} [Inhabited α] {lt : α → α → Bool} {tag : α → Nat}
theorem insInner_st {a : Nat} : ∀ (j : Nat) (d : Array α), j < d.size → (∀ p, a ≤ p → p < j → tag d[p]! < tag d[j]!) → insInner lt a j d = insInner (stR lt tag) a j d
  | 0, d, _, _ => by rw [insInner, insInner]
  | j + 1, d, hj, h => by
    rw [insInner, insInner]
    by_cases hja : j + 1 > a
    · have ht := h j (by omega) (by omega)
      have e : stR lt tag d[j + 1]! d[j]! = lt d[j + 1]! d[j]! := by
        unfold stR
        rw [decide_eq_false (by omega : ¬ tag d[j + 1]! < tag d[j]!)]
        simp
      rw [e]
      have g := swp_get d hj (show j < d.size by omega)
      rw [insInner_st j (swp d (j + 1) j) (by rw [swp_size]; omega) (fun p h1 h2 => by
        rw [g, g, if_neg (by omega), if_neg (by omega), if_pos rfl]
        exact h p h1 (by omega))]
    · rw [if_neg (by simp [hja]), if_neg (by simp [hja])]
/-- where the inner loop's elements come from -/
theorem insInner_from {a : Nat} : ∀ (j : Nat) (d : Array α), j < d.size → (insInner lt a j d).size = d.size ∧ (∀ p, a ≤ p → p ≤ j → ∃ p', a ≤ p' ∧ p' ≤ j ∧ (insInner lt a j d)[p]! = d[p']!) ∧ ∀ p, j < p ∨ p < a → (insInner lt a j d)[p]! = d[p]!
  | 0, d, _ => by
    rw [insInner]
    exact ⟨rfl, fun p h1 h2 => ⟨p, h1, h2, rfl⟩, fun p _ => rfl⟩
  | j + 1, d, hj => by
    rw [insInner]
    split
    · rename_i hc
      simp only [Bool.and_eq_true, decide_eq_true_eq] at hc
      have g := swp_get d hj (show j < d.size by omega)
      have ih := insInner_from (a := a) j (swp d (j + 1) j) (by rw [swp_size]; omega)
      refine ⟨by rw [ih.1, swp_size], fun p h1 h2 => ?_, fun p hp => ?_⟩
      · by_cases hpj : p ≤ j
        · obtain ⟨p', q1, q2, q3⟩ := ih.2.1 p h1 hpj
          rw [q3, g]
          by_cases e1 : p' = j
          · rw [if_pos e1]; exact ⟨j + 1, by omega, Nat.le_refl _, rfl⟩
          · rw [if_neg e1, if_neg (by omega)]; exact ⟨p', q1, by omega, rfl⟩
        · obtain rfl : p = j + 1 := by omega
          rw [ih.2.2 (j + 1) (.inl (by omega)), g, if_neg (by omega), if_pos rfl]
          exact ⟨j, by omega, by omega, rfl⟩
      · rcases hp with hp | hp
        · rw [ih.2.2 p (.inl (by omega)), g, if_neg (by omega), if_neg (by omega)]
        · rw [ih.2.2 p (.inr hp), g, if_neg (by omega), if_neg (by omega)]
    · exact ⟨rfl, fun p h1 h2 => ⟨p, h1, h2, rfl⟩, fun p _ => rfl⟩
theorem insOuter_st {a b : Nat} : ∀ (n i : Nat) (d : Array α), b - i = n → a < i → b ≤ d.size → (∀ p q, a ≤ p → p < q → i ≤ q → q < b → tag d[p]! < tag d[q]!) → insOuter lt a b i d = insOuter (stR lt tag) a b i d
  | 0, i, d, hn, _, _, _ => by
    rw [insOuter_stop lt a b i d (by omega), insOuter_stop (stR lt tag) a b i d (by omega)]
  | n + 1, i, d, hn, ha, hb, h => by
    rw [insOuter_go lt a b i d (by omega), insOuter_go (stR lt tag) a b i d (by omega)]
    have hi := insInner_st (lt := lt) (tag := tag) (a := a) i d (by omega) (fun p h1 h2 => h p i h1 h2 (Nat.le_refl _) (by omega))
    have hf := insInner_from (lt := lt) (a := a) i d (by omega)
    rw [← hi]
    refine insOuter_st n (i + 1) _ (by omega) (by omega) (by rw [hf.1]; exact hb) (fun p q h1 h2 h3 h4 => ?_)
    rw [hf.2.2 q (.inl (by omega))]
    by_cases hp : p ≤ i
    · obtain ⟨p', q1, q2, q3⟩ := hf.2.1 p h1 hp
      rw [q3]
      exact h p' q q1 (by omega) (by omega) h4
    · rw [hf.2.2 p (.inl (by omega))]
      exact h p q h1 h2 (by omega) h4
/-- the insertion sort is stable -/
theorem insertionSort_st (hS : SWO lt) (d : Array α) (a b : Nat) (hab : a ≤ b) (hb : b ≤ d.size) (h : ∀ p q, a ≤ p → p < q → q < b → tag d[p]! < tag d[q]!) :
    PermIn a b d (insertionSort lt d a b) ∧ SortedIn (stR lt tag) a b (insertionSort lt d a b) := by
  have e : insertionSort lt d a b = insertionSort (stR lt tag) d a b := by
    unfold insertionSort
    exact insOuter_st (b - (a + 1)) (a + 1) d rfl (by omega) hb (fun p q h1 h2 h3 h4 => h p q h1 h2 h4)
  rw [e]
  exact insertionSort_holds (stR_swo hS) d a b hab hb
/-- a sorted array as a list -/
theorem sorted_pair {d : Array α} (hd : ∀ i j, i < d.size → j < d.size → i ≠ j → tag d[i]! ≠ tag d[j]!) (h : SortedIn (stR lt tag) 0 d.size d) : d.toList.Pairwise (fun x y => stR lt tag x y = true) := by
  rw [List.pairwise_iff_getElem]
  intro i j hi hj hij
  have hi' : i < d.size := by simpa using hi
  have hj' : j < d.size := by simpa using hj
  have h1 := h i j (Nat.zero_le _) hij hj'
  have h2 := hd i j hi' hj' (by omega)
  rw [getElem!_pos d i hi', getElem!_pos d j hj'] at h1 h2
  simpa using stR_total h2 h1
end
end Go.Proofs.YtckmebfgianeoaaDoor
