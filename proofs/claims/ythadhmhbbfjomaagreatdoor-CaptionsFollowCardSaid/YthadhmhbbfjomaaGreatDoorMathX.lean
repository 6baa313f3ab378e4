
/-
  Plain law: the words of a line, rune by rune; what Wrap makes of them.
  Conditions: none.
-/
import Derived.Test.YthadhmhbbfjomaaGreatDoorWalkBd
import Derived.Laws.RangeAny
import Derived.Laws.RangeString
namespace Go.Proofs.YthadhmhbbfjomaaGreatDoor
open Go.RowKit Go.Lib
set_option linter.unusedVariables false

/-- the words, c the one that has begun -/
def wordsG : List UInt8 → List UInt8 → List (List UInt8)
  | c, [] => if c = [] then [] else [c]
  | c, x :: r => if x = 32 then (if c = [] then wordsG [] r else c :: wordsG [] r) else wordsG (c ++ [x]) r
theorem wordsG_more (y : List UInt8) : ∀ (c r : List UInt8), (∀ x ∈ y, x ≠ 32) → wordsG c (y ++ r) = wordsG (c ++ y) r := by
  induction y with
  | nil => intro c r _; simp
  | cons x y ih =>
    intro c r h
    rw [List.cons_append, wordsG, if_neg (h x (by simp)), ih (c ++ [x]) r (fun z hz => h z (by simp [hz]))]
    simp
theorem wordsG_blank (c r : List UInt8) : wordsG c (32 :: r) = if c = [] then wordsG [] r else c :: wordsG [] r := by rw [wordsG, if_pos rfl]
theorem wordsG_nil (c : List UInt8) : wordsG c [] = if c = [] then [] else [c] := by rw [wordsG]
/-- the lines of a line that is too long -/
def wrapM (k : Nat) (l : List UInt8) : List ByteArray :=
  let s := (wordsG [] l).foldl (addW k) ([], [])
  endL s.1 s.2
/-- what Wrap hands back -/
def wrapP (k : Int) (s : ByteArray) : List ByteArray := if k < 1 then [] else if (s.size : Int) ≤ k then [s] else wrapM k.toNat s.data.toList

theorem addW_len (k : Nat) (hk : 0 < k) (ls : List ByteArray) (cur w : List UInt8) (hw : w ≠ []) : (addW k (ls, cur) w).1.length + (addW k (ls, cur) w).2.length ≤ ls.length + cur.length + 2 * w.length := by
  have hw2 : 1 ≤ w.length := by
    cases w with
    | nil => exact absurd rfl hw
    | cons _ _ => simp
  unfold addW
  split
  · simp only [List.length_append, List.length_cons]
    omega
  · have h1 := chop_len k hk w.length w (Nat.le_refl _)
    simp only [List.length_append]
    have h2 : (endL ls cur).length ≤ ls.length + cur.length := by
      unfold endL
      split
      · omega
      · rename_i hc
        have : cur.length ≠ 0 := fun e => hc (List.eq_nil_of_length_eq_zero e)
        simp
        omega
    omega
theorem decode_cont (s : ByteArray) (i : Nat) (h : i < s.size) (h2 : 128 ≤ (s[i]'h).toNat) : ∀ j, j < (Utf8.decode s i).2 → i + j < s.size ∧ 128 ≤ (s.get! (i + j)).toNat := by
  have h0 : 128 ≤ (s.get! (i + 0)).toNat := by
    have e : s.get! (i + 0) = s[i] := by
      rw [Nat.add_zero]
      simp [ByteArray.get!, h]
      rfl
    rw [e]
    exact h2
  have hz : ∀ j, j < 1 → i + j < s.size ∧ 128 ≤ (s.get! (i + j)).toNat := fun j hj => by
    obtain rfl : j = 0 := by omega
    exact ⟨by omega, h0⟩
  unfold Utf8.decode
  simp only
  split
  · omega
  · split
    · rename_i _ hc
      simp only [Bool.and_eq_true, beq_iff_eq, decide_eq_true_eq] at hc
      split
      · intro j hj
        rcases (show j = 0 ∨ j = 1 by omega) with rfl | rfl
        · exact ⟨by omega, h0⟩
        · exact ⟨hc.2.1, by omega⟩
      · exact hz
    · split
      · rename_i _ _ hc
        simp only [Bool.and_eq_true, beq_iff_eq, decide_eq_true_eq] at hc
        split
        · intro j hj
          rcases (show j = 0 ∨ j = 1 ∨ j = 2 by omega) with rfl | rfl | rfl
          · exact ⟨by omega, h0⟩
          · exact ⟨hc.1.2.1, by omega⟩
          · exact ⟨hc.2.1, by omega⟩
        · exact hz
      · split
        · rename_i _ _ _ hc
          simp only [Bool.and_eq_true, beq_iff_eq, decide_eq_true_eq] at hc
          split
          · intro j hj
            rcases (show j = 0 ∨ j = 1 ∨ j = 2 ∨ j = 3 by omega) with rfl | rfl | rfl | rfl
            · exact ⟨by omega, h0⟩
            · exact ⟨hc.1.1.2.1, by omega⟩
            · exact ⟨hc.1.2.1, by omega⟩
            · exact ⟨hc.2.1, by omega⟩
          · exact hz
        · exact hz
/-- a rune that is no blank: its bytes are no blanks -/
theorem rune_bytes (s : ByteArray) (i : Nat) (h : i < s.size) : 1 ≤ (Utf8.decode s i).2 ∧ i + (Utf8.decode s i).2 ≤ s.size ∧
    (((Utf8.decode s i).1 = 32 ∧ (Utf8.decode s i).2 = 1 ∧ s[i] = 32) ∨ ((Utf8.decode s i).1 ≠ 32 ∧ ∀ x ∈ (s.data.toList.drop i).take (Utf8.decode s i).2, x ≠ 32)) := by
  by_cases ha : (s[i]'h).toNat < 128
  · rw [decode_ascii s i h ha]
    refine ⟨Nat.le_refl _, h, ?_⟩
    by_cases hb : s[i] = 32
    · exact .inl ⟨by rw [hb]; rfl, rfl, hb⟩
    · refine .inr ⟨fun e => hb (UInt8.toNat_inj.1 e), fun x hx => ?_⟩
      rw [ba_drop s i h] at hx
      simp at hx
      rw [hx]
      exact hb
  · have ha : 128 ≤ (s[i]'h).toNat := by omega
    have h1 := decode_high s i h ha
    have h2 := decode_cont s i h ha
    refine ⟨h1.2, ?_, .inr ⟨by omega, fun x hx => ?_⟩⟩
    · have := (h2 ((Utf8.decode s i).2 - 1) (by omega)).1
      omega
    · obtain ⟨j, hj, rfl⟩ := List.getElem_of_mem hx
      rw [List.length_take] at hj
      have h3 := h2 j (by omega)
      rw [List.getElem_take, List.getElem_drop]
      have e : s.get! (i + j) = s.data.toList[i + j]'(by simpa using h3.1) := by
        simp [ByteArray.get!, h3.1]
      rw [e] at h3
      intro h4
      rw [h4] at h3
      exact absurd h3.2 (by decide)
end Go.Proofs.YthadhmhbbfjomaaGreatDoor
