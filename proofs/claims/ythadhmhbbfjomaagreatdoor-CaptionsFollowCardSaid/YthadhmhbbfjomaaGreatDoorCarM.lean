/-
  What a carrier's map of ends says: of each caption its index, under its end and lines.
  Conditions: the ends are from 0 to 999 and differ; no line has a byte 10.
-/
import Derived.Test.YthadhmhbbfjomaaGreatDoorMapV
import Derived.Test.YthadhmhbbfjomaaGreatDoorMathKy
import Derived.Test.YthadhmhbbfjomaaGreatDoorWalkVa
namespace Go.Proofs.YthadhmhbbfjomaaGreatDoor
open Go.RowKit Go.Lib
set_option linter.unusedSimpArgs false
set_option linter.unusedVariables false

/-- the indices of a key that has none -/
abbrev noI : Value := .slice none 0 0
def kLit (e : Int) (ss : List ByteArray) : Lit := .string (keyL e (ss.map fun s => s.data.toList))
/-- an end and lines of which a key is made -/
structure KeyOk (e : Int) (ss : List ByteArray) : Prop where
  e0 : 0 ≤ e
  e1 : e < 1000
  ne : ss ≠ []
  nl : ∀ s ∈ ss, (10 : UInt8) ∉ s.data.toList
theorem ba_inj {a b : ByteArray} (h : a.data.toList = b.data.toList) : a = b := by
  cases a; cases b
  simp only [ByteArray.mk.injEq]
  exact Array.toList_inj.1 h
theorem kLit_inj {e e' : Int} {ss ss' : List ByteArray} (h : KeyOk e ss) (h' : KeyOk e' ss') (hk : kLit e ss = kLit e' ss') : e = e' ∧ ss = ss' := by
  unfold kLit at hk
  injection hk with hk
  obtain ⟨h1, h2⟩ := keyL_inj ⟨h.e0, h.e1⟩ ⟨h'.e0, h'.e1⟩ (by simpa using h.ne) (by simpa using h'.ne) (fun s hs => by
      obtain ⟨t, ht, rfl⟩ := List.mem_map.1 hs
      exact h.nl t ht) (fun s hs => by
      obtain ⟨t, ht, rfl⟩ := List.mem_map.1 hs
      exact h'.nl t ht) hk
  refine ⟨h1, ?_⟩
  have inj : ∀ (a b : List ByteArray), a.map (fun s => s.data.toList) = b.map (fun s => s.data.toList) → a = b := by
    intro a
    induction a with
    | nil => intro b hb; cases b with
      | nil => rfl
      | cons y l => cases hb
    | cons x l ih => intro b hb; cases b with
      | nil => cases hb
      | cons y m =>
        rw [List.map_cons, List.map_cons] at hb
        injection hb with q1 q2
        rw [ba_inj q1, ih m q2]
  exact inj _ _ h2
theorem kKey (e : Int) (ss : List ByteArray) : WideAt.IsKeyLit (kLit e ss) := by
  unfold kLit
  trivial
/-- the ends differ -/
def EndD (c : List (Int × Int × List ByteArray)) : Prop := ∀ (i j : Nat) x z, c[i]? = some x → c[j]? = some z → x.2.1 = z.2.1 → i = j
/-- the room of a row of indices -/
def CapOk (cap : Nat) : Prop := 1 ≤ cap ∧ cap ≤ maxLen
structure EndsR (wr : World) (base : Nat) (D : DataW Value) (c : List (Int × Int × List ByteArray)) (gs : List Nat) : Prop where
  len : gs.length = c.length
  ok : ∀ x ∈ c, KeyOk x.2.1 x.2.2
  has : ∀ (i : Nat) x (g : Nat), c[i]? = some x → gs[i]? = some g → base ≤ g ∧ ∃ cap r, CapOk cap ∧ D.atKey (kLit x.2.1 x.2.2) (.held noI) = .held (.slice (some ⟨g, 0, none⟩) 1 cap) ∧ Blk wr g 3 (.int .i64 (i : Int) :: r)
  nd : ∀ (i j : Nat) g, gs[i]? = some g → gs[j]? = some g → i = j
  no : ∀ e ss, KeyOk e ss → (∀ x ∈ c, ¬ (x.2.1 = e ∧ x.2.2 = ss)) → ∃ a cap, D.atKey (kLit e ss) (.held noI) = .held (.slice a 0 cap)
  late : ∀ e ss, KeyOk e ss → (∀ x ∈ c, x.2.1 < e) → D.atKey (kLit e ss) (.held noI) = .held noI
theorem EndsR.new (wr : World) (base : Nat) : EndsR wr base (.map []) [] [] :=
  ⟨rfl, fun x hx => (by cases hx), fun i x g h => (by simp at h), fun i j g h => (by simp at h), fun e ss _ _ => ⟨none, 0, rfl⟩, fun e ss _ _ => rfl⟩
theorem EndsR.kept {W w : World} {base : Nat} {D : DataW Value} {c : List (Int × Int × List ByteArray)} {gs : List Nat} (h : EndsR W base D c gs) (hk : ∀ g ∈ gs, ∀ T vs, Blk W g T vs → Blk w g T vs) : EndsR w base D c gs :=
  ⟨h.len, h.ok, fun i x g hx hg => by
    obtain ⟨h1, cap, r, h2, h3, h4⟩ := h.has i x g hx hg
    exact ⟨h1, cap, r, h2, h3, hk g (List.mem_of_getElem? hg) _ _ h4⟩, h.nd, h.no, h.late⟩
theorem EndsR.app {wr : World} {base g cap : Nat} {D : DataW Value} {c : List (Int × Int × List ByteArray)} {gs : List Nat} {x : Int × Int × List ByteArray} {r : List Value} (h : EndsR wr base D c gs) (hm : Maps.IsMap D) (hx : KeyOk x.2.1 x.2.2) (hl : ∀ y ∈ c, y.2.1 < x.2.1)
    (hb : Blk wr g 3 (.int .i64 (c.length : Int) :: r)) (hg : g ∉ gs) (hbase : base ≤ g) (hcap : CapOk cap) : EndsR wr base (D.put (kLit x.2.1 x.2.2) (.held (.slice (some ⟨g, 0, none⟩) 1 cap))) (c ++ [x]) (gs ++ [g]) := by
  have hne : ∀ e ss, KeyOk e ss → ¬ (x.2.1 = e ∧ x.2.2 = ss) → kLit e ss ≠ kLit x.2.1 x.2.2 := fun e ss hk hn he => by
    obtain ⟨q1, q2⟩ := kLit_inj hk hx he
    exact hn ⟨q1.symm, q2.symm⟩
  refine ⟨by simp [h.len], fun y hy => ?_, fun i y gy hy hgy => ?_, ?_, fun e ss hk hn => ?_, fun e ss hk hn => ?_⟩
  · rcases List.mem_append.1 hy with hy | hy
    · exact h.ok y hy
    · rw [List.mem_singleton] at hy; rw [hy]; exact hx
  · by_cases hi : i < c.length
    · rw [List.getElem?_append_left hi] at hy
      rw [List.getElem?_append_left (by rw [h.len]; exact hi)] at hgy
      obtain ⟨h1, cap2, r2, h2, h3, h4⟩ := h.has i y gy hy hgy
      have hyc := List.mem_of_getElem? hy
      have := hl y hyc
      refine ⟨h1, cap2, r2, h2, ?_, h4⟩
      rw [Maps.atKey_put_other (hne _ _ (h.ok y hyc) (by omega))]
      exact h3
    · have hlt := (List.getElem?_eq_some_iff.1 hy).1
      rw [List.length_append, List.length_singleton] at hlt
      obtain rfl : i = c.length := by omega
      rw [List.getElem?_append_right (Nat.le_refl _), Nat.sub_self] at hy
      rw [← h.len, List.getElem?_append_right (Nat.le_refl _), Nat.sub_self] at hgy
      simp at hy hgy
      subst hy hgy
      exact ⟨hbase, cap, r, hcap, Maps.atKey_put_same hm (kKey _ _) _ _, hb⟩
  · intro p q g2 hp hq
    have hin : ∀ (p : Nat), p < gs.length → (gs ++ [g])[p]? = some g2 → gs[p]? = some g2 := fun p hp h => by rwa [List.getElem?_append_left hp] at h
    have hout : ∀ (p : Nat), ¬ p < gs.length → (gs ++ [g])[p]? = some g2 → p = gs.length ∧ g2 = g := fun p hp h => by
      have hlt := (List.getElem?_eq_some_iff.1 h).1
      rw [List.length_append, List.length_singleton] at hlt
      obtain rfl : p = gs.length := by omega
      rw [List.getElem?_append_right (Nat.le_refl _), Nat.sub_self] at h
      simp at h
      exact ⟨rfl, h.symm⟩
    by_cases h1 : p < gs.length
    · by_cases h2 : q < gs.length
      · exact h.nd p q g2 (hin p h1 hp) (hin q h2 hq)
      · exact absurd (List.mem_of_getElem? (hin p h1 hp)) (by rw [(hout q h2 hq).2]; exact hg)
    · by_cases h2 : q < gs.length
      · exact absurd (List.mem_of_getElem? (hin q h2 hq)) (by rw [(hout p h1 hp).2]; exact hg)
      · rw [(hout p h1 hp).1, (hout q h2 hq).1]
  · have h1 := hn x (by simp)
    rw [Maps.atKey_put_other (hne e ss hk h1)]
    exact h.no e ss hk fun y hy => hn y (List.mem_append.2 (.inl hy))
  · have h1 := hn x (by simp)
    rw [Maps.atKey_put_other (hne e ss hk (by omega))]
    exact h.late e ss hk fun y hy => hn y (List.mem_append.2 (.inl hy))
/-- a caption is prolonged: its old key has no index any more -/
theorem EndsR.move {W wr : World} {base g' cap cap0 i : Nat} {a0 : Option Addr} {D : DataW Value} {c : List (Int × Int × List ByteArray)} {gs : List Nat} {y : Int × Int × List ByteArray} {t : Int} {r : List Value} (h : EndsR W base D c gs) (hm : Maps.IsMap D) (hm1 : Maps.IsMap (D.put (kLit y.2.1 y.2.2) (.held (.slice a0 0 cap0))))
    (hy : c[i]? = some y) (hd : EndD c) (hx : KeyOk t y.2.2) (hl : ∀ z ∈ c, z.2.1 < t)
    (hk : ∀ j g, j ≠ i → gs[j]? = some g → ∀ T vs, Blk W g T vs → Blk wr g T vs)
    (hb : Blk wr g' 3 (.int .i64 (i : Int) :: r)) (hg : g' ∉ gs) (hbase : base ≤ g') (hcap : CapOk cap) :
    EndsR wr base ((D.put (kLit y.2.1 y.2.2) (.held (.slice a0 0 cap0))).put (kLit t y.2.2) (.held (.slice (some ⟨g', 0, none⟩) 1 cap))) (c.set i (y.1, t, y.2.2)) (gs.set i g') := by
  have hi := (List.getElem?_eq_some_iff.1 hy).1
  have hyc := List.mem_of_getElem? hy
  have hyt := hl y hyc
  have hne : ∀ e ss, KeyOk e ss → ¬ (t = e ∧ y.2.2 = ss) → kLit e ss ≠ kLit t y.2.2 := fun e ss hk hn he => by
    obtain ⟨q1, q2⟩ := kLit_inj hk hx he
    exact hn ⟨q1.symm, q2.symm⟩
  have hne0 : ∀ e ss, KeyOk e ss → ¬ (y.2.1 = e ∧ y.2.2 = ss) → kLit e ss ≠ kLit y.2.1 y.2.2 := fun e ss hk hn he => by
    obtain ⟨q1, q2⟩ := kLit_inj hk (h.ok y hyc) he
    exact hn ⟨q1.symm, q2.symm⟩
  have hdist : ∀ j z, j ≠ i → c[j]? = some z → z.2.1 ≠ y.2.1 := fun j z hj hz e => by
    exact hj (hd j i z y hz hy e)
  refine ⟨by simp [h.len], fun z hz => ?_, fun j z g hz hgz => ?_, ?_, fun e ss hke hn => ?_, fun e ss hke hn => ?_⟩
  · rcases List.mem_or_eq_of_mem_set hz with hz | hz
    · exact h.ok z hz
    · rw [hz]; exact hx
  · by_cases hj : j = i
    · subst hj
      rw [List.getElem?_set_self hi] at hz
      rw [List.getElem?_set_self (by rw [h.len]; exact hi)] at hgz
      injection hz with hz
      injection hgz with hgz
      subst hz hgz
      exact ⟨hbase, cap, r, hcap, Maps.atKey_put_same hm1 (kKey _ _) _ _, hb⟩
    · rw [List.getElem?_set_ne (fun e => hj e.symm)] at hz hgz
      obtain ⟨h1, cap2, r2, h2, h3, h4⟩ := h.has j z g hz hgz
      have hzc := List.mem_of_getElem? hz
      have hz1 := hl z hzc
      refine ⟨h1, cap2, r2, h2, ?_, hk j g hj hgz _ _ h4⟩
      rw [Maps.atKey_put_other (hne _ _ (h.ok z hzc) (by omega)), Maps.atKey_put_other (hne0 _ _ (h.ok z hzc) (fun e => hdist j z hj hz e.1.symm))]
      exact h3
  · intro p q g2 hp hq
    have hgl : i < gs.length := by rw [h.len]; exact hi
    by_cases h1 : p = i
    · subst h1
      rw [List.getElem?_set_self hgl] at hp
      injection hp with hp
      by_cases h2 : q = p
      · exact h2.symm
      · rw [List.getElem?_set_ne (fun e => h2 e.symm)] at hq
        exact absurd (List.mem_of_getElem? hq) (by rw [← hp]; exact hg)
    · rw [List.getElem?_set_ne (fun e => h1 e.symm)] at hp
      by_cases h2 : q = i
      · subst h2
        rw [List.getElem?_set_self hgl] at hq
        injection hq with hq
        exact absurd (List.mem_of_getElem? hp) (by rw [← hq]; exact hg)
      · rw [List.getElem?_set_ne (fun e => h2 e.symm)] at hq
        exact h.nd p q g2 hp hq
  · have h1 := hn (y.1, t, y.2.2) (List.mem_of_getElem? (List.getElem?_set_self hi))
    simp only at h1
    rw [Maps.atKey_put_other (hne e ss hke h1)]
    by_cases h0 : y.2.1 = e ∧ y.2.2 = ss
    · obtain ⟨rfl, rfl⟩ := h0
      exact ⟨a0, cap0, Maps.atKey_put_same hm (kKey _ _) _ _⟩
    · rw [Maps.atKey_put_other (hne0 e ss hke h0)]
      refine h.no e ss hke fun z hz => ?_
      obtain ⟨j, hjl, hj⟩ := List.getElem_of_mem hz
      by_cases hji : j = i
      · subst hji
        have : z = y := by rw [← hj]; exact (List.getElem?_eq_some_iff.1 hy).2
        rw [this]
        exact h0
      · exact hn z (by
          have : (c.set i (y.1, t, y.2.2))[j]? = some z := by rw [List.getElem?_set_ne (fun e => hji e.symm), ← hj]; exact List.getElem?_eq_getElem _
          exact List.mem_of_getElem? this)
  · have h1 := hn (y.1, t, y.2.2) (List.mem_of_getElem? (List.getElem?_set_self hi))
    simp only at h1
    rw [Maps.atKey_put_other (hne e ss hke (by omega)), Maps.atKey_put_other (hne0 e ss hke (by omega))]
    exact h.late e ss hke fun z hz => by have := hl z hz; omega
end Go.Proofs.YthadhmhbbfjomaaGreatDoor
