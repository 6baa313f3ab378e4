/-
  Plain law: what Parse of package captions reads; whose Format its text may be.
  Conditions: none.
-/
import Derived.Test.YtckmebfgianeoaaDoorMathPa
import Derived.Test.YtckmebfgianeoaaDoorWalkPt
namespace Go.Proofs.YtckmebfgianeoaaDoor
open Go.RowKit Go.Lib
set_option linter.unusedVariables false

theorem vCues_abs : ∀ {x y : List Cu}, x.map cAbs = y.map cAbs → vCues x = vCues y
  | [], [], _ => rfl
  | [], _ :: _, h => by simp at h
  | _ :: _, [], h => by simp at h
  | a :: x, b :: y, h => by
    obtain ⟨⟨h1, h2, h3⟩, h4⟩ := cAbs_cons.1 h
    show (vCu a && vCues x) = (vCu b && vCues y)
    rw [vCues_abs h4]
    unfold vCu
    rw [h1, h2, h3]
theorem fmtG_abs (num den : Int) : ∀ {x y : List Cu}, x.map cAbs = y.map cAbs → fmtG num den x = fmtG num den y
  | [], [], _ => rfl
  | [], _ :: _, h => by simp at h
  | _ :: _, [], h => by simp at h
  | a :: x, b :: y, h => by
    obtain ⟨⟨h1, h2, h3⟩, h4⟩ := cAbs_cons.1 h
    show (cueOk num den a && fmtG num den x) = (cueOk num den b && fmtG num den y)
    rw [fmtG_abs num den h4]
    unfold cueOk
    rw [h1, h2]
theorem fmtT_abs (num den : Int) : ∀ (i : Nat) {x y : List Cu}, x.map cAbs = y.map cAbs → fmtT num den i x = fmtT num den i y
  | i, [], [], _ => rfl
  | i, [], _ :: _, h => by simp at h
  | i, _ :: _, [], h => by simp at h
  | i, a :: x, b :: y, h => by
    obtain ⟨⟨h1, h2, h3⟩, h4⟩ := cAbs_cons.1 h
    rw [fmtT, fmtT, fmtT_abs num den (i + 1) h4]
    unfold cueT
    rw [h1, h2, h3]

theorem plP_out : ∀ (f : Nat) (acc : List (List UInt8)) (s : List UInt8) (ls : List (List UInt8)) (r : List UInt8), plP f acc s = some (ls, r) → ls.length ≤ 4 ∧ r.length < s.length ∧ ∀ l ∈ ls, l ∈ acc ∨ l.length ≤ s.length
  | 0, _, _, _, _, h => by cases h
  | f + 1, acc, s, ls, r, h => by
    have hl := cut_lens s [10]
    rw [plP] at h
    split at h
    · cases h
    · rename_i h1
      have h1a : (cut s [10]).2.2 = true := by cases hb : (cut s [10]).2.2 with | true => rfl | false => exact absurd (.inl hb) h1
      have h2 := hl.2.2 h1a (by simp)
      split at h
      · injection h with h
        injection h with ha hb
        subst ha hb
        exact ⟨by have : ¬ 4 < acc.length := fun q => h1 (.inr q); omega, h2, fun l hl => .inl hl⟩
      · obtain ⟨i1, i2, i3⟩ := plP_out f _ _ ls r h
        refine ⟨i1, by omega, fun l hm => ?_⟩
        rcases i3 l hm with q | q
        · rcases List.mem_append.1 q with q | q
          · exact .inl q
          · rw [List.mem_singleton.1 q]; exact .inr hl.1
        · exact .inr (by omega)
theorem posN_bound {ms num den : Int} (h0 : 0 ≤ ms) (h1 : ms ≤ 400000000) (hs : suB num den = true) : 0 ≤ posN ms num den ∧ posN ms num den ≤ 9223372036854775807 := by
  obtain ⟨hv, n1, n2, d1, d2, _⟩ := suB_out hs
  have hm : 0 ≤ ms * num := Int.mul_nonneg h0 (by omega)
  have hm2 : ms * num ≤ 400000000 * 1048576 := Int.mul_le_mul h1 n2 (by omega) (by omega)
  have hq0 : 0 ≤ posN ms num den := by unfold posN; exact Int.ediv_nonneg (by omega) (by omega)
  have hq1 : posN ms num den ≤ 2 * (ms * num) + 1000 * den := by unfold posN; exact Int.ediv_le_self _ (by omega)
  omega
theorem ptP_bound {num den n : Int} (hs : suB num den = true) {l : List UInt8} (h : ptP num den l = some n) : 0 ≤ n ∧ n ≤ 9223372036854775807 := by
  unfold ptP at h
  split at h
  · rename_i hl
    split at h
    · rename_i a b c d ha hb hc hd
      injection h with h
      subst h
      have h1 := dgV_bound ha
      have h2 := dgV_bound hb
      have h3 := dgV_bound hc
      have h4 := dgV_bound hd
      have l1 := h1.2.1 (by simp; omega)
      have l2 := h2.2.1 (by simp; omega)
      have l3 := h3.2.1 (by simp; omega)
      have l4 := h4.2.2 (by simp; omega)
      exact posN_bound (by omega) (by omega) hs
    · cases h
  · cases h
theorem pcP_out {num den : Int} (hs : suB num den = true) {s : List UInt8} {c : AC} {r : List UInt8} (h : pcP num den s = some (c, r)) :
    0 ≤ c.1 ∧ c.1 ≤ 9223372036854775807 ∧ 0 ≤ c.2.1 ∧ c.2.1 ≤ 9223372036854775807 ∧ c.2.2.length ≤ 4 ∧ (∀ l ∈ c.2.2, l.size ≤ s.length) ∧ r.length < s.length := by
  unfold pcP at h
  simp only at h
  have l1 := cut_lens s [10]
  have l2 := cut_lens (cut s [10]).2.1 [10]
  split at h
  · cases h
  · split at h
    · rename_i a b ha hb
      split at h
      · rename_i ls r2 hp
        injection h with h
        injection h with hc hr
        subst hc hr
        have ba := ptP_bound hs ha
        have bb := ptP_bound hs hb
        obtain ⟨p1, p2, p3⟩ := plP_out _ _ _ _ _ hp
        refine ⟨ba.1, ba.2, bb.1, bb.2, by simpa using p1, fun l hl => ?_, by omega⟩
        obtain ⟨x, hx, rfl⟩ := List.mem_map.1 hl
        rcases p3 x hx with q | q
        · cases q
        · show x.length ≤ _
          omega
      · cases h
    · cases h

/-- what a text still to be read and what has been read say of every list whose Format the whole text is -/
def JP (num den : Int) (S t : List UInt8) (cs : List Cu) : Prop :=
  ∀ X : List Cu, vCues X = true → fmtG num den X = true → fmtT num den 0 X = S → cs.length ≤ X.length ∧ cs.map cAbs = (X.take cs.length).map cAbs ∧ t = fmtT num den cs.length (X.drop cs.length)
theorem JP.start (num den : Int) (S : List UInt8) : JP num den S S [] := fun X _ _ h => ⟨Nat.zero_le _, rfl, h.symm⟩
theorem vCues_drop {X : List Cu} (h : vCues X = true) (k : Nat) : vCues (X.drop k) = true := by
  unfold vCues at *
  rw [List.all_eq_true] at *
  exact fun c hc => h c (List.mem_of_mem_drop hc)
theorem fmtG_drop {num den : Int} {X : List Cu} (h : fmtG num den X = true) (k : Nat) : fmtG num den (X.drop k) = true := by
  unfold fmtG at *
  rw [List.all_eq_true] at *
  exact fun c hc => h c (List.mem_of_mem_drop hc)
theorem JP.head {num den : Int} {S t : List UInt8} {cs : List Cu} (h : JP num den S t cs) (hs : suB num den = true) (ht : t ≠ []) (X : List Cu) (hv : vCues X = true) (hg : fmtG num den X = true) (hf : fmtT num den 0 X = S) :
    ∃ (hk : cs.length < X.length), pcP num den t = some (cAbs X[cs.length], fmtT num den (cs.length + 1) (X.drop (cs.length + 1))) := by
  obtain ⟨h1, h2, h3⟩ := h X hv hg hf
  have hk : cs.length < X.length := by
    refine Nat.lt_of_le_of_ne h1 (fun e => ht ?_)
    rw [h3, List.drop_of_length_le (by omega)]
    rfl
  refine ⟨hk, ?_⟩
  have e := List.drop_eq_getElem_cons hk
  have a1 := vCues_drop hv cs.length
  have a2 := fmtG_drop hg cs.length
  rw [e] at h3 a1 a2
  have b1 : (vCu X[cs.length] && vCues (X.drop (cs.length + 1))) = true := a1
  have b2 : (cueOk num den X[cs.length] && fmtG num den (X.drop (cs.length + 1))) = true := a2
  rw [Bool.and_eq_true] at b1 b2
  rw [h3, fmtT]
  exact pcP_cue hs b1.1 b2.1 _ _
theorem JP.step {num den : Int} {S t r : List UInt8} {cs : List Cu} {c : AC} (h : JP num den S t cs) (hs : suB num den = true) (ht : t ≠ []) (hp : pcP num den t = some (c, r)) (d : Cu) (hd : cAbs d = c) : JP num den S r (cs ++ [d]) := by
  intro X hv hg hf
  obtain ⟨h1, h2, h3⟩ := h X hv hg hf
  obtain ⟨hk, hq⟩ := h.head hs ht X hv hg hf
  rw [hq] at hp
  injection hp with hp
  injection hp with hc hr
  refine ⟨by rw [List.length_append]; exact hk, ?_, by rw [List.length_append]; exact hr.symm⟩
  rw [List.length_append, List.length_singleton, ← List.take_append_getElem hk, List.map_append, List.map_append, h2, List.map_singleton, List.map_singleton, hd, hc]
theorem JP.no {num den : Int} {S t : List UInt8} {cs : List Cu} (h : JP num den S t cs) (hs : suB num den = true) (ht : t ≠ []) (hp : pcP num den t = none) : ∀ X : List Cu, vCues X = true → fmtG num den X = true → fmtT num den 0 X = S → False := by
  intro X hv hg hf
  obtain ⟨hk, hq⟩ := h.head hs ht X hv hg hf
  rw [hq] at hp
  cases hp
theorem JP.done {num den : Int} {S : List UInt8} {cs : List Cu} (h : JP num den S [] cs) (X : List Cu) (hv : vCues X = true) (hg : fmtG num den X = true) (hf : fmtT num den 0 X = S) : cs.map cAbs = X.map cAbs := by
  obtain ⟨h1, h2, h3⟩ := h X hv hg hf
  have hk : cs.length = X.length := by
    rcases Nat.lt_or_ge cs.length X.length with hk | hk
    · rw [List.drop_eq_getElem_cons hk, fmtT] at h3
      have := congrArg List.length h3
      unfold cueT at this
      simp at this
    · omega
  rw [h2, hk, List.take_length]
end Go.Proofs.YtckmebfgianeoaaDoor
