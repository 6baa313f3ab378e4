/-
  Plain law: an exchange of two ranges, a rotation, a merge of two sorted runs by halves, runs of growing length.
  Conditions: none.
-/
import Derived.Test.YtckmebfgianeoaaDoorMathU
import Derived.Sort.Lot0
namespace Go.Proofs.YtckmebfgianeoaaDoor
open Go.Sort
set_option linter.unusedVariables false

section
variable {α : Type}
theorem set_mid (Q S : List α) (y z : α) : (Q ++ y :: S).set Q.length z = Q ++ z :: S := by
  rw [List.set_append_right _ _ (Nat.le_refl _)]; simp
theorem one_perm (B : List α) (x : α) (t : Nat) : (B.take t ++ x :: B.drop t).Perm (x :: B) := by
  refine List.perm_middle.trans (List.Perm.cons x ?_)
  rw [List.take_append_drop]
variable {R : α → α → Prop}
variable {tag : α → Nat}
/-- a sorted run whose elements came from the places base .. -/
def Run (R : α → α → Prop) (tag : α → Nat) (base : Nat) (A : List α) : Prop := A.Pairwise R ∧ ∀ x ∈ A, base ≤ tag x ∧ tag x < base + A.length
theorem Run.join {base : Nat} {A B C : List α} (hA : Run R tag base A) (hB : Run R tag (base + A.length) B) (hp : C.Perm (A ++ B)) (hs : C.Pairwise R) : Run R tag base C := by
  refine ⟨hs, fun x hx => ?_⟩
  have hl := hp.length_eq
  rw [List.length_append] at hl
  rcases List.mem_append.1 (hp.mem_iff.1 hx) with h | h
  · have := hA.2 x h; omega
  · have := hB.2 x h; omega
theorem Run.apart {base : Nat} {A B : List α} (hA : Run R tag base A) (hB : Run R tag (base + A.length) B) : ∀ x ∈ A, ∀ y ∈ B, tag x < tag y := fun x hx y hy => by
  have := hA.2 x hx
  have := hB.2 y hy
  omega
/-- runs of the length b, the last of them perhaps shorter -/
inductive Runs (R : α → α → Prop) (tag : α → Nat) (b : Nat) : Nat → List α → Prop
  | last (base : Nat) (A : List α) : A.length ≤ b → Run R tag base A → Runs R tag b base A
  | cons (base : Nat) (A l : List α) : A.length = b → Run R tag base A → Runs R tag b (base + b) l → Runs R tag b base (A ++ l)
/-- whole runs of the length b -/
inductive Full (R : α → α → Prop) (tag : α → Nat) (b : Nat) : Nat → List α → Prop
  | nil (base : Nat) : Full R tag b base []
  | cons (base : Nat) (A l : List α) : A.length = b → Run R tag base A → Full R tag b (base + b) l → Full R tag b base (A ++ l)
theorem Full.snoc {b base : Nat} {X A : List α} (h : Full R tag b base X) (hl : A.length = b) (hA : Run R tag (base + X.length) A) : Full R tag b base (X ++ A) := by
  induction h with
  | nil base =>
    have := Full.cons base A [] hl hA (Full.nil _)
    rwa [List.append_nil] at this
  | cons base B l h1 h2 _ ih =>
    rw [List.append_assoc]
    refine Full.cons base B _ h1 h2 (ih ?_)
    rw [List.length_append, h1, ← Nat.add_assoc] at hA
    exact hA
theorem Full.runs {b base : Nat} {X Y : List α} (h : Full R tag b base X) (hY : Runs R tag b (base + X.length) Y) : Runs R tag b base (X ++ Y) := by
  induction h with
  | nil base => exact hY
  | cons base B l h1 h2 _ ih =>
    rw [List.append_assoc]
    refine Runs.cons base B _ h1 h2 (ih ?_)
    rw [List.length_append, h1, ← Nat.add_assoc] at hY
    exact hY
/-- two whole runs at the head -/
theorem Runs.two {b base : Nat} {Y : List α} (hb : 0 < b) (h : Runs R tag b base Y) (hl : 2 * b ≤ Y.length) : ∃ A B l, Y = A ++ (B ++ l) ∧ A.length = b ∧ B.length = b ∧ Run R tag base A ∧ Run R tag (base + A.length) B ∧ Runs R tag b (base + 2 * b) l := by
  cases h with
  | last _ _ h1 h2 => omega
  | cons _ A l h1 h2 h3 =>
    rw [List.length_append, h1] at hl
    cases h3 with
    | last _ _ g1 g2 => exact ⟨A, l, [], by simp, h1, by omega, h2, by rw [h1]; exact g2, Runs.last _ [] (by simp) ⟨List.Pairwise.nil, fun x hx => by cases hx⟩⟩
    | cons _ B l g1 g2 g3 => exact ⟨A, B, l, rfl, h1, g1, h2, by rw [h1]; exact g2, by rw [show base + 2 * b = base + b + b by omega]; exact g3⟩
/-- one whole run and a shorter one -/
theorem Runs.rest {b base : Nat} {Y : List α} (h : Runs R tag b base Y) (hl : b < Y.length) (hq : Y.length < 2 * b) : ∃ A B, Y = A ++ B ∧ A.length = b ∧ B.length = Y.length - b ∧ Run R tag base A ∧ Run R tag (base + A.length) B := by
  cases h with
  | last _ _ h1 h2 => omega
  | cons _ A l h1 h2 h3 =>
    rw [List.length_append, h1] at hl hq
    cases h3 with
    | last _ _ g1 g2 => exact ⟨A, l, rfl, h1, by rw [List.length_append]; omega, h2, by rw [h1]; exact g2⟩
    | cons _ B l g1 g2 g3 => rw [List.length_append, g1] at hq; omega
/-- one whole run of a list that one run fills -/
theorem Runs.one {b base : Nat} {Y : List α} (h : Runs R tag b base Y) (hl : Y.length ≤ b) : Run R tag base Y := by
  cases h with
  | last _ _ h1 h2 => exact h2
  | cons _ A l h1 h2 h3 =>
    rw [List.length_append, h1] at hl
    have : l = [] := List.eq_nil_of_length_eq_zero (by omega)
    subst this
    rw [List.append_nil]
    exact h2
end
section
variable {α : Type} [Inhabited α]

theorem get_mid (Q S : List α) (y : α) : (⟨Q ++ y :: S⟩ : Array α)[Q.length]! = y := by simp
theorem swp_list {d : Array α} {P M S : List α} {x y : α} (h : d.toList = P ++ x :: (M ++ y :: S)) :
    (swp d P.length (P.length + 1 + M.length)).toList = P ++ y :: (M ++ x :: S) := by
  obtain ⟨l⟩ := d
  simp only at h
  subst h
  have e0 : P.length + 1 + M.length = (P ++ x :: M).length := by simp; omega
  have e3 : P.length + 1 + M.length = (P ++ y :: M).length := by simp; omega
  have h2 : ∀ u v : α, P ++ u :: (M ++ v :: S) = (P ++ u :: M) ++ v :: S := fun u v => by simp
  have e1 : (⟨P ++ x :: (M ++ y :: S)⟩ : Array α)[P.length]! = x := get_mid _ _ _
  have e2 : (⟨P ++ x :: (M ++ y :: S)⟩ : Array α)[P.length + 1 + M.length]! = y := by rw [h2, e0]; exact get_mid _ _ _
  unfold swp
  rw [e1, e2, Array.toList_setIfInBounds, Array.toList_setIfInBounds]
  show ((P ++ x :: (M ++ y :: S)).set P.length y).set _ x = _
  rw [set_mid, e3, h2, set_mid, ← h2]
theorem swr_step {d : Array α} {P A M B S : List α} {i : Nat} (hi : i < A.length) (hAB : A.length = B.length)
    (hd : d.toList = P ++ ((B.take i ++ A.drop i) ++ (M ++ ((A.take i ++ B.drop i) ++ S)))) :
    (swp d (P.length + i) (P.length + A.length + M.length + i)).toList = P ++ ((B.take (i + 1) ++ A.drop (i + 1)) ++ (M ++ ((A.take (i + 1) ++ B.drop (i + 1)) ++ S))) := by
  have hB : i < B.length := by omega
  have h1 : d.toList = (P ++ B.take i) ++ A[i] :: ((A.drop (i + 1) ++ M ++ A.take i) ++ B[i] :: (B.drop (i + 1) ++ S)) := by
    rw [hd, List.drop_eq_getElem_cons hi, List.drop_eq_getElem_cons hB]; simp only [List.append_assoc, List.cons_append]
  have h2 := swp_list h1
  have e1 : (P ++ B.take i).length = P.length + i := by rw [List.length_append, List.length_take]; omega
  have e2 : P.length + i + 1 + (A.drop (i + 1) ++ M ++ A.take i).length = P.length + A.length + M.length + i := by simp; omega
  rw [e1, e2] at h2
  rw [h2, ← List.take_append_getElem hi, ← List.take_append_getElem hB]; simp only [List.append_assoc, List.cons_append, List.nil_append]
/-- what stands at a place of a list that is put together -/
theorem at_A {d : Array α} {P A S : List α} (h : d.toList = P ++ (A ++ S)) {i : Nat} (hi : i < A.length) : d[P.length + i]! = A[i]! := by
  obtain ⟨l⟩ := d
  simp only at h
  subst h
  rw [getElem!_pos (⟨P ++ (A ++ S)⟩ : Array α) (P.length + i) (by simp; omega), getElem!_pos A i hi]
  simp [List.getElem_append_right, List.getElem_append_left, hi]
theorem at_B {d : Array α} {P A B S : List α} (h : d.toList = P ++ (A ++ (B ++ S))) {i : Nat} (hi : i < B.length) : d[P.length + A.length + i]! = B[i]! := by
  have := at_A (d := d) (P := P ++ A) (A := B) (S := S) (by rw [h]; simp) hi
  rwa [List.length_append] at this

variable {R : α → α → Prop}
theorem pw_at {A : List α} (h : A.Pairwise R) {i j : Nat} (hij : i < j) (hj : j < A.length) : R A[i]! A[j]! := by
  rw [getElem!_pos A i (by omega), getElem!_pos A j hj]
  exact List.pairwise_iff_getElem.1 h i j (by omega) hj hij
theorem mem_at {A : List α} {x : α} (h : x ∈ A) : ∃ i, i < A.length ∧ A[i]! = x := by
  obtain ⟨i, hi, e⟩ := List.mem_iff_getElem.1 h
  exact ⟨i, hi, by rw [getElem!_pos A i hi]; exact e⟩
theorem take_at {A : List α} {x : α} {t : Nat} (h : x ∈ A.take t) : ∃ i, i < t ∧ i < A.length ∧ A[i]! = x := by
  obtain ⟨i, hi, e⟩ := List.mem_iff_getElem.1 h
  rw [List.length_take] at hi
  refine ⟨i, by omega, by omega, ?_⟩
  rw [getElem!_pos A i (by omega)]
  rw [List.getElem_take] at e
  exact e
theorem drop_at {A : List α} {x : α} {t : Nat} (h : x ∈ A.drop t) : ∃ i, t ≤ i ∧ i < A.length ∧ A[i]! = x := by
  obtain ⟨i, hi, e⟩ := List.mem_iff_getElem.1 h
  rw [List.length_drop] at hi
  refine ⟨t + i, by omega, by omega, ?_⟩
  rw [getElem!_pos A (t + i) (by omega)]
  rw [List.getElem_drop] at e
  exact e
/-- one element into a sorted run -/
theorem one_in {B : List α} {x : α} {t : Nat} (hB : B.Pairwise R) (h1 : ∀ i, i < t → i < B.length → R B[i]! x) (h2 : ∀ i, t ≤ i → i < B.length → R x B[i]!) : (B.take t ++ x :: B.drop t).Pairwise R := by
  rw [← List.take_append_drop t B, List.pairwise_append] at hB
  refine List.pairwise_append.2 ⟨hB.1, List.pairwise_cons.2 ⟨fun y hy => ?_, hB.2.1⟩, fun y hy z hz => ?_⟩
  · obtain ⟨i, a, b, rfl⟩ := drop_at hy
    exact h2 i a b
  · rcases List.mem_cons.1 hz with rfl | hz
    · obtain ⟨i, a, b, rfl⟩ := take_at hy
      exact h1 i a b
    · exact hB.2.2 y hy z hz
/-- two sorted runs divided so that the lower h elements are theirs: the halves, sorted, make the merge -/
theorem merge_cut (ht : ∀ x y z, R x y → R y z → R x z) {A B C1 C2 : List α} {h s : Nat} (hA : A.Pairwise R) (hB : B.Pairwise R) (hsh : s ≤ h) (h1 : s = 0 ∨ B.length ≤ h - s ∨ R A[s - 1]! B[h - s]!) (h2 : A.length ≤ s ∨ h = s ∨ R B[h - s - 1]! A[s]!)
    (hs : s ≤ A.length) (hb : h - s ≤ B.length) (p1 : C1.Perm (A.take s ++ B.take (h - s))) (p2 : C2.Perm (A.drop s ++ B.drop (h - s))) (s1 : C1.Pairwise R) (s2 : C2.Pairwise R) : (C1 ++ C2).Pairwise R ∧ (C1 ++ C2).Perm (A ++ B) := by
  have low : ∀ {X : List α}, X.Pairwise R → ∀ i j, i ≤ j → j < X.length → ∀ z, R X[j]! z → R X[i]! z := fun hX i j hij hj z hz => by
    rcases Nat.lt_or_eq_of_le hij with g | g
    · exact ht _ _ _ (pw_at hX g hj) hz
    · rw [g]; exact hz
  have high : ∀ {X : List α}, X.Pairwise R → ∀ i j, i ≤ j → j < X.length → ∀ z, R z X[i]! → R z X[j]! := fun hX i j hij hj z hz => by
    rcases Nat.lt_or_eq_of_le hij with g | g
    · exact ht _ _ _ hz (pw_at hX g hj)
    · rw [← g]; exact hz
  refine ⟨List.pairwise_append.2 ⟨s1, s2, fun x hx y hy => ?_⟩, ?_⟩
  · rcases List.mem_append.1 (p1.mem_iff.1 hx) with hx | hx <;> rcases List.mem_append.1 (p2.mem_iff.1 hy) with hy | hy
    · obtain ⟨i, i1, i2, rfl⟩ := take_at hx
      obtain ⟨j, j1, j2, rfl⟩ := drop_at hy
      exact pw_at hA (by omega) j2
    · obtain ⟨i, i1, i2, rfl⟩ := take_at hx
      obtain ⟨j, j1, j2, rfl⟩ := drop_at hy
      rcases h1 with g | g | g
      · omega
      · omega
      · exact low hA i (s - 1) (by omega) (by omega) _ (high hB (h - s) j j1 j2 _ g)
    · obtain ⟨i, i1, i2, rfl⟩ := take_at hx
      obtain ⟨j, j1, j2, rfl⟩ := drop_at hy
      rcases h2 with g | g | g
      · omega
      · omega
      · exact low hB i (h - s - 1) (by omega) (by omega) _ (high hA s j j1 j2 _ g)
    · obtain ⟨i, i1, i2, rfl⟩ := take_at hx
      obtain ⟨j, j1, j2, rfl⟩ := drop_at hy
      exact pw_at hB (by omega) j2
  · refine (p1.append p2).trans ?_
    have e1 : (A.take s ++ B.take (h - s) ++ (A.drop s ++ B.drop (h - s))).Perm ((A.take s ++ A.drop s) ++ (B.take (h - s) ++ B.drop (h - s))) := by
      rw [List.append_assoc, List.append_assoc]
      refine List.Perm.append_left _ ?_
      rw [← List.append_assoc, ← List.append_assoc]
      exact List.Perm.append_right _ List.perm_append_comm
    rwa [List.take_append_drop, List.take_append_drop] at e1

end
end Go.Proofs.YtckmebfgianeoaaDoor
