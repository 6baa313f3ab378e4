/-
  Plain law: wrapped lines are not empty and not too long, and hold the bytes of the line that are no blanks, in their order.
  Conditions: none.
-/
import Derived.Test.YtckmebfgianeoaaDoorWalkRx
namespace Go.Proofs.YtckmebfgianeoaaDoor
set_option linter.unusedVariables false

/-- the bytes that are no blanks -/
def bareL (l : List UInt8) : List UInt8 := l.filter (fun x => decide (x ≠ 32))
theorem bareL_append (a b : List UInt8) : bareL (a ++ b) = bareL a ++ bareL b := by unfold bareL; rw [List.filter_append]
/-- the bytes of all lines -/
def allB (ls : List ByteArray) : List UInt8 := ls.flatMap (fun b => b.data.toList)
theorem allB_append (a b : List ByteArray) : allB (a ++ b) = allB a ++ allB b := by unfold allB; rw [List.flatMap_append]
theorem words_bare : ∀ (c l : List UInt8), bareL ((wordsG c l).flatten) = bareL c ++ bareL l
  | c, [] => by
    rw [wordsG]
    split
    · rename_i h; rw [h]; rfl
    · simp [bareL]
  | c, x :: r => by
    have h1 := words_bare [] r
    have h2 := words_bare (c ++ [x]) r
    rw [wordsG]
    split
    · rename_i hx
      have hb : bareL (x :: r) = bareL r := by unfold bareL; rw [hx]; rfl
      rw [hb]
      split
      · rename_i hc
        rw [h1, hc]
      · rw [List.flatten_cons, bareL_append, h1]
        rfl
    · rw [h2, bareL_append, List.append_assoc, ← bareL_append]
      rfl
/-- a line as it should be -/
def okLine (k : Nat) (b : ByteArray) : Prop := 1 ≤ b.size ∧ b.size ≤ k
theorem chop_keeps (k : Nat) (hk : 0 < k) : ∀ (f : Nat) (w : List UInt8), allB (chop k f w).1 ++ (chop k f w).2 = w ∧ ∀ b ∈ (chop k f w).1, okLine k b
  | 0, w => ⟨rfl, fun b hb => by cases hb⟩
  | f + 1, w => by
    by_cases c : k < w.length
    · rw [chop_step _ _ _ c]
      have h := chop_keeps k hk f (w.drop k)
      refine ⟨?_, fun b hb => ?_⟩
      · show allB ((⟨(w.take k).toArray⟩ : ByteArray) :: _) ++ _ = w
        rw [show allB ((⟨(w.take k).toArray⟩ : ByteArray) :: (chop k f (w.drop k)).1) = w.take k ++ allB (chop k f (w.drop k)).1 by simp [allB], List.append_assoc, h.1, List.take_append_drop]
      · rcases List.mem_cons.1 hb with rfl | hb
        · have e : (⟨(w.take k).toArray⟩ : ByteArray).size = k := by rw [← ba_len]; simp; omega
          exact ⟨by rw [e]; exact hk, by rw [e]; exact Nat.le_refl _⟩
        · exact h.2 b hb
    · rw [chop_done _ _ _ c]
      exact ⟨rfl, fun b hb => by cases hb⟩
theorem endL_keeps {k : Nat} {ls : List ByteArray} {cur : List UInt8} (h : ∀ b ∈ ls, okLine k b) (hc : cur.length ≤ k) : allB (endL ls cur) = allB ls ++ cur ∧ ∀ b ∈ endL ls cur, okLine k b := by
  unfold endL
  split
  · rename_i e
    rw [e]
    exact ⟨by simp, h⟩
  · rename_i e
    refine ⟨by rw [allB_append]; simp [allB], fun b hb => ?_⟩
    rcases List.mem_append.1 hb with hb | hb
    · exact h b hb
    · rw [List.mem_singleton.1 hb]
      have e2 : (⟨cur.toArray⟩ : ByteArray).size = cur.length := by rw [← ba_len]
      have : cur.length ≠ 0 := fun h => e (List.eq_nil_of_length_eq_zero h)
      exact ⟨by rw [e2]; omega, by rw [e2]; exact hc⟩
theorem addW_keeps {k : Nat} (hk : 0 < k) {ls : List ByteArray} {cur w : List UInt8} (h : ∀ b ∈ ls, okLine k b) (hc : cur.length ≤ k) :
    (bareL (allB (addW k (ls, cur) w).1 ++ (addW k (ls, cur) w).2) = bareL (allB ls ++ cur) ++ bareL w) ∧ (∀ b ∈ (addW k (ls, cur) w).1, okLine k b) ∧ (addW k (ls, cur) w).2.length ≤ k := by
  unfold addW
  split
  · rename_i hh
    simp only at hh
    refine ⟨?_, h, by simp only [List.length_append, List.length_cons]; omega⟩
    show bareL (allB ls ++ (cur ++ 32 :: w)) = _
    rw [← List.append_assoc, bareL_append _ (32 :: w)]
    rfl
  · have h1 := endL_keeps h hc
    have h2 := chop_keeps k hk w.length w
    have h3 := chop_len k hk w.length w (Nat.le_refl _)
    refine ⟨?_, fun b hb => ?_, h3.2⟩
    · show bareL (allB (endL ls cur ++ (chop k w.length w).1) ++ (chop k w.length w).2) = _
      rw [allB_append, List.append_assoc, h2.1, h1.1, bareL_append]
    · rcases List.mem_append.1 hb with hb | hb
      · exact h1.2 b hb
      · exact h2.2 b hb
theorem foldl_keeps {k : Nat} (hk : 0 < k) : ∀ (ws : List (List UInt8)) (ls : List ByteArray) (cur : List UInt8), (∀ b ∈ ls, okLine k b) → cur.length ≤ k →
    (bareL (allB (ws.foldl (addW k) (ls, cur)).1 ++ (ws.foldl (addW k) (ls, cur)).2) = bareL (allB ls ++ cur) ++ bareL ws.flatten) ∧ (∀ b ∈ (ws.foldl (addW k) (ls, cur)).1, okLine k b) ∧ (ws.foldl (addW k) (ls, cur)).2.length ≤ k
  | [], ls, cur, h, hc => ⟨by simp [bareL], h, hc⟩
  | w :: ws, ls, cur, h, hc => by
    have h1 := addW_keeps hk (w := w) h hc
    have h2 := foldl_keeps hk ws (addW k (ls, cur) w).1 (addW k (ls, cur) w).2 h1.2.1 h1.2.2
    rw [show ((addW k (ls, cur) w).1, (addW k (ls, cur) w).2) = addW k (ls, cur) w from rfl] at h2
    rw [List.foldl_cons]
    refine ⟨?_, h2.2.1, h2.2.2⟩
    rw [h2.1, h1.1, List.append_assoc, List.flatten_cons, bareL_append w]
theorem wrapM_keeps {k : Nat} (hk : 0 < k) (l : List UInt8) : bareL (allB (wrapM k l)) = bareL l ∧ ∀ b ∈ wrapM k l, okLine k b := by
  have h := foldl_keeps hk (wordsG [] l) [] [] (fun b hb => by cases hb) (Nat.zero_le _)
  have h2 := endL_keeps h.2.1 h.2.2
  unfold wrapM
  simp only
  refine ⟨?_, h2.2⟩
  rw [h2.1, h.1, words_bare]
  rfl
end Go.Proofs.YtckmebfgianeoaaDoor
