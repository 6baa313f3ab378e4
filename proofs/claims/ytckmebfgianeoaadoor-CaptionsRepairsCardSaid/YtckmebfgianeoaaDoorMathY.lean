/-
  Plain law: an exchange the other way round; the insertion sort of a range of marked elements; steps of a rotation.
  Conditions: none.
-/
import Derived.Test.YtckmebfgianeoaaDoorMathV
namespace Go.Proofs.YtckmebfgianeoaaDoor
open Go.Sort
set_option linter.unusedVariables false

section
variable {α : Type} {tag : α → Nat}
/-- marks that count upward from base -/
def Asc (tag : α → Nat) (base : Nat) (Z : List α) : Prop := Z.map tag = List.range' base Z.length
theorem Asc.split {base : Nat} {Z1 Z2 : List α} (h : Asc tag base (Z1 ++ Z2)) : Asc tag base Z1 ∧ Asc tag (base + Z1.length) Z2 := by
  unfold Asc at *
  rw [List.map_append, List.length_append, ← List.range'_append] at h
  have := List.append_inj h (by simp)
  simpa using this
theorem Asc.at_ {base : Nat} {Z : List α} (h : Asc tag base Z) {i : Nat} (hi : i < Z.length) : tag Z[i] = base + i := by
  have h1 : (Z.map tag)[i]'(by simpa using hi) = tag Z[i] := by simp
  rw [← h1]
  unfold Asc at h
  simp [h]
theorem Asc.mem {base : Nat} {Z : List α} (h : Asc tag base Z) {x : α} (hx : x ∈ Z) : base ≤ tag x ∧ tag x < base + Z.length := by
  obtain ⟨i, hi, rfl⟩ := List.mem_iff_getElem.1 hx
  rw [h.at_ hi]
  omega
theorem Asc.nodup {base : Nat} {Z : List α} (h : Asc tag base Z) : (Z.map tag).Nodup := by
  unfold Asc at h
  rw [h]
  exact List.nodup_range' ..
end

section
variable {α : Type} [Inhabited α] {lt : α → α → Bool} {tag : α → Nat}
theorem at_get (d : Array α) {i : Nat} (h : i < d.toList.length) : d.toList[i] = d[i]! := by
  rw [getElem!_pos d i (by simpa using h)]
  simp
theorem swp_back {d : Array α} {P M S : List α} {x y : α} (h : d.toList = P ++ x :: (M ++ y :: S)) :
    (swp d (P.length + 1 + M.length) P.length).toList = P ++ y :: (M ++ x :: S) := by
  have hz : d.size = (P ++ x :: (M ++ y :: S)).length := by rw [← h]; simp
  simp at hz
  have e : swp d (P.length + 1 + M.length) P.length = swp d P.length (P.length + 1 + M.length) := by
    refine Array.ext (by simp [swp]) (fun k h1 h2 => ?_)
    have a1 := swp_get d (i := P.length + 1 + M.length) (j := P.length) (by omega) (by omega) k
    have a2 := swp_get d (i := P.length) (j := P.length + 1 + M.length) (by omega) (by omega) k
    rw [getElem!_pos _ k h1] at a1
    rw [getElem!_pos _ k h2] at a2
    rw [a1, a2]
    by_cases c1 : k = P.length
    · rw [if_pos c1, if_neg (by omega), if_pos c1]
    · by_cases c2 : k = P.length + 1 + M.length
      · rw [if_neg c1, if_pos c2, if_pos c2]
      · rw [if_neg c1, if_neg c2, if_neg c2, if_neg c1]
  rw [e]
  exact swp_list h
theorem perm_list {d d' : Array α} {X Z S : List α} (hd : d.toList = X ++ (Z ++ S)) (hp : PermIn X.length (X.length + Z.length) d d') : ∃ Z', d'.toList = X ++ (Z' ++ S) ∧ Z'.Perm Z := by
  obtain ⟨h1, h2, h3⟩ := hp
  have hz : d.toList.length = X.length + (Z.length + S.length) := by rw [hd]; simp
  have hz' : d'.toList.length = d.toList.length := by simpa using h1
  have e1 : (d.extract X.length (X.length + Z.length)).toList = Z := by
    rw [Array.toList_extract, hd, List.extract_eq_take_drop]
    simp
  rw [e1] at h3
  refine ⟨_, ?_, h3⟩
  rw [Array.toList_extract, List.extract_eq_take_drop]
  have a1 : d'.toList.take X.length = X := by
    refine List.ext_getElem (by rw [List.length_take]; omega) (fun i g1 g2 => ?_)
    rw [List.getElem_take, at_get, h2 i (.inl g2), ← at_get d (by omega)]
    simp [hd, List.getElem_append_left, g2]
  have a2 : d'.toList.drop (X.length + Z.length) = S := by
    refine List.ext_getElem (by rw [List.length_drop]; omega) (fun i g1 g2 => ?_)
    rw [List.getElem_drop, at_get, h2 _ (.inr (by omega)), ← at_get d (by omega)]
    have : ∀ (l : List α) (hl : l = X ++ (Z ++ S)) (hk : X.length + Z.length + i < l.length), l[X.length + Z.length + i] = S[i] := fun l hl hk => by
      subst hl
      rw [List.getElem_append_right (by omega), List.getElem_append_right (by omega)]
      congr 1
      omega
    exact this _ hd _
  have a3 : (d'.toList.drop X.length).drop Z.length = S := by rw [List.drop_drop]; exact a2
  conv => lhs; rw [← List.take_append_drop X.length d'.toList, ← List.take_append_drop Z.length (d'.toList.drop X.length)]
  rw [a1, a3, Nat.add_sub_cancel_left]
/-- the insertion sort of a range -/
theorem ins_run (hS : SWO lt) {d : Array α} {X Z S : List α} {base : Nat} (hd : d.toList = X ++ (Z ++ S)) (ha : Asc tag base Z) :
    ∃ Z', (insertionSort lt d X.length (X.length + Z.length)).toList = X ++ (Z' ++ S) ∧ Z'.Perm Z ∧ Run (fun x y => stR lt tag x y = true) tag base Z' := by
  have hz : d.size = X.length + (Z.length + S.length) := by
    have : d.toList.length = (X ++ (Z ++ S)).length := by rw [hd]
    simpa using this
  have hat : ∀ i, (hi : i < Z.length) → d[X.length + i]! = Z[i] := fun i hi => by
    rw [at_A hd hi, getElem!_pos Z i hi]
  have hst := insertionSort_st (tag := tag) hS d X.length (X.length + Z.length) (by omega) (by omega) (fun p q h1 h2 h3 => by
    obtain ⟨i, rfl⟩ : ∃ i, p = X.length + i := ⟨p - X.length, by omega⟩
    obtain ⟨j, rfl⟩ : ∃ j, q = X.length + j := ⟨q - X.length, by omega⟩
    rw [hat i (by omega), hat j (by omega), ha.at_ (by omega), ha.at_ (by omega)]
    omega)
  obtain ⟨Z', h1, h2⟩ := perm_list hd hst.1
  refine ⟨Z', h1, h2, ?_, fun x hx => ?_⟩
  · have hn : (Z'.map tag).Nodup := (h2.map tag).nodup_iff.2 ha.nodup
    rw [List.pairwise_iff_getElem]
    intro i j hi hj hij
    have hl := h2.length_eq
    have h5 := hst.2 (X.length + i) (X.length + j) (by omega) (by omega) (by omega)
    rw [at_A h1 hi, at_A h1 hj, getElem!_pos Z' i hi, getElem!_pos Z' j hj] at h5
    have h6 := List.pairwise_iff_getElem.1 hn i j (by simpa using hi) (by simpa using hj) hij
    exact stR_total (by simpa using h6) h5
  · rw [h2.length_eq]
    exact ha.mem (h2.mem_iff.1 hx)
end
end Go.Proofs.YtckmebfgianeoaaDoor
