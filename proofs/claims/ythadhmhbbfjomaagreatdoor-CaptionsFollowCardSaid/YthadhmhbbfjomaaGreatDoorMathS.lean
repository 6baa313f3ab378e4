
/-
  Plain law: a cut of valid, ordered captions is valid and ordered, and shows what the captions showed.
  Conditions: none.
-/
import Derived.Test.YthadhmhbbfjomaaGreatDoorWalkAt
namespace Go.Proofs.YthadhmhbbfjomaaGreatDoor
set_option linter.unusedVariables false

def vA (x : AC) : Bool := vCue x.1 x.2.1 x.2.2
def findB (n : Int) : List AC → Option (List ByteArray)
  | [] => none
  | c :: l => if c.1 ≤ n ∧ n < c.2.1 then some c.2.2 else findB n l
def ordA : List AC → Bool
  | c :: d :: l => decide (c.2.1 ≤ d.1) && ordA (d :: l)
  | _ => true
theorem vCues_abs (cs : List Cu) : vCues cs = (cs.map cAbs).all vA := by
  unfold vCues
  induction cs with
  | nil => rfl
  | cons c cs ih => rw [List.all_cons, List.map_cons, List.all_cons, ih]; rfl
theorem findA_abs (n : Int) (cs : List Cu) : findA n cs = findB n (cs.map cAbs) := by
  induction cs with
  | nil => rfl
  | cons c cs ih => rw [List.map_cons]; unfold findA findB; rw [ih]; rfl
theorem ordB_abs : ∀ (cs : List Cu), ordB cs = ordA (cs.map cAbs)
  | [] => rfl
  | [_] => rfl
  | c :: d :: l => by
    show (decide (c.t ≤ d.f) && ordB (d :: l)) = (decide (c.t ≤ d.f) && ordA (List.map cAbs (d :: l)))
    rw [ordB_abs (d :: l)]
theorem vA_b {x : AC} (h : vA x = true) : 0 ≤ x.1 ∧ x.1 < x.2.1 ∧ x.2.1 ≤ 2147483647 := by
  unfold vA vCue at h
  simp only [Bool.and_eq_true, decide_eq_true_eq] at h
  exact ⟨h.1.1, h.1.2.1, h.1.2.2.1⟩
theorem vA_move {x : AC} (h : vA x = true) {F E : Int} (h1 : 0 ≤ F) (h2 : F < E) (h3 : E ≤ 2147483647) : vA (F, E, x.2.2) = true := by
  unfold vA vCue at h ⊢
  simp only [Bool.and_eq_true, decide_eq_true_eq] at h ⊢
  exact ⟨⟨h1, h2, h3, h.1.2.2.2.1, h.1.2.2.2.2⟩, h.2⟩
theorem cut_valid {a b : Int} (ha : 0 ≤ a) : ∀ {x : List AC}, x.all vA = true → (cutA a b x).all vA = true
  | [], _ => rfl
  | (f, t, ss) :: l, h => by
    rw [List.all_cons, Bool.and_eq_true] at h
    unfold cutA
    split
    · rename_i hlt
      have hb := vA_b h.1
      simp only at hb
      rw [List.all_cons, vA_move (x := (f, t, ss)) h.1 (by omega) (by omega) (by omega), cut_valid ha h.2]
      rfl
    · exact cut_valid ha h.2
/-- every caption of a list begins at lo or behind it -/
def from_ (lo : Int) (x : List AC) : Prop := ∀ c ∈ x, lo ≤ c.1
theorem ord_from : ∀ {c : AC} {l : List AC}, ordA (c :: l) = true → (c :: l).all vA = true → from_ c.2.1 l
  | c, [], _, _ => fun d hd => by cases hd
  | c, d :: l, h, hv => by
    have h : (decide (c.2.1 ≤ d.1) && ordA (d :: l)) = true := h
    rw [Bool.and_eq_true, decide_eq_true_eq] at h
    rw [List.all_cons, Bool.and_eq_true] at hv
    have hb := vA_b (by have := hv.2; rw [List.all_cons, Bool.and_eq_true] at this; exact this.1 : vA d = true)
    intro e he
    rcases List.mem_cons.1 he with rfl | he
    · exact h.1
    · have := ord_from h.2 hv.2 e he
      omega
theorem ord_cons {c : AC} {l : List AC} (h : from_ c.2.1 l) (ho : ordA l = true) : ordA (c :: l) = true := by
  cases l with
  | nil => rfl
  | cons d l =>
    show (decide (c.2.1 ≤ d.1) && ordA (d :: l)) = true
    rw [decide_eq_true (h d (List.mem_cons_self ..)), ho]
    rfl
theorem ord_tail {c : AC} {l : List AC} (h : ordA (c :: l) = true) : ordA l = true := by
  cases l with
  | nil => rfl
  | cons d l =>
    have h : (decide (c.2.1 ≤ d.1) && ordA (d :: l)) = true := h
    rw [Bool.and_eq_true] at h
    exact h.2
theorem cut_from {a b lo : Int} : ∀ {x : List AC}, from_ lo x → from_ (max lo a - a) (cutA a b x)
  | [], _ => fun c hc => by cases hc
  | (f, t, ss) :: l, h => by
    have h1 := h (f, t, ss) (List.mem_cons_self ..)
    have h2 : from_ lo l := fun c hc => h c (List.mem_cons_of_mem _ hc)
    unfold cutA
    split
    · intro c hc
      rcases List.mem_cons.1 hc with rfl | hc
      · simp only at h1 ⊢; omega
      · exact cut_from h2 c hc
    · exact cut_from h2
theorem cut_ord {a b : Int} : ∀ {x : List AC}, x.all vA = true → ordA x = true → ordA (cutA a b x) = true
  | [], _, _ => rfl
  | (f, t, ss) :: l, hv, ho => by
    have hf := ord_from ho hv
    rw [List.all_cons, Bool.and_eq_true] at hv
    unfold cutA
    split
    · refine ord_cons (fun c hc => ?_) (cut_ord hv.2 (ord_tail ho))
      have := cut_from hf c hc
      simp only at this ⊢
      omega
    · exact cut_ord hv.2 (ord_tail ho)
theorem cut_find {a b n : Int} (h0 : 0 ≤ n) (hn : a + n < b) : ∀ {x : List AC}, findB n (cutA a b x) = findB (a + n) x
  | [] => rfl
  | (f, t, ss) :: l => by
    unfold cutA
    split
    · unfold findB
      simp only
      rw [cut_find h0 hn]
      by_cases h : f ≤ a + n ∧ a + n < t
      · rw [if_pos h, if_pos (by omega)]
      · rw [if_neg h, if_neg (by omega)]
    · rw [cut_find h0 hn]
      conv => rhs; unfold findB
      simp only
      rw [if_neg (by omega)]
theorem cut_none {a b n : Int} (hn : b ≤ a + n) : ∀ {x : List AC}, findB n (cutA a b x) = none
  | [] => rfl
  | (f, t, ss) :: l => by
    unfold cutA
    split
    · unfold findB
      simp only
      rw [cut_none hn, if_neg (by omega)]
    · exact cut_none hn
end Go.Proofs.YthadhmhbbfjomaaGreatDoor
