
/-
  Plain law of carried captions: what they show, and that a cut through a caption leaves one caption.
  Conditions: none.
-/
import Derived.Test.YthadhmhbbfjomaaGreatDoorMathS
namespace Go.Proofs.YthadhmhbbfjomaaGreatDoor
set_option linter.unusedVariables false
set_option linter.unusedSimpArgs false

/-- a caption is carried: the first one that ends where it begins and has its lines is prolonged; else it is appended -/
def addA (x : AC) : List AC → List AC
  | [] => [x]
  | y :: l => if y.2.1 = x.1 ∧ y.2.2 = x.2.2 then (y.1, x.2.1, x.2.2) :: l else y :: addA x l
def carL (c xs : List AC) : List AC := xs.foldl (fun c x => addA x c) c
def shiftA (d : Int) (xs : List AC) : List AC := xs.map fun x => (x.1 + d, x.2.1 + d, x.2.2)
theorem findB_before {n T : Int} : ∀ {xs : List AC}, from_ T xs → n < T → findB n xs = none
  | [], _, _ => rfl
  | x :: xs, h, hn => by
    have h1 := h x (List.mem_cons_self ..)
    unfold findB
    rw [if_neg (by omega)]
    exact findB_before (fun c hc => h c (List.mem_cons_of_mem _ hc)) hn
theorem findB_after {n T : Int} : ∀ {xs : List AC}, (∀ y ∈ xs, y.2.1 ≤ T) → T ≤ n → findB n xs = none
  | [], _, _ => rfl
  | x :: xs, h, hn => by
    have h1 := h x (List.mem_cons_self ..)
    unfold findB
    rw [if_neg (by omega)]
    exact findB_after (fun c hc => h c (List.mem_cons_of_mem _ hc)) hn
theorem addA_find {x : AC} {n : Int} (hx : x.1 < x.2.1) : ∀ {c : List AC}, (∀ y ∈ c, y.2.1 ≤ x.1) → (∀ y ∈ c, y.1 < y.2.1) → findB n (addA x c) = if x.1 ≤ n ∧ n < x.2.1 then some x.2.2 else findB n c
  | [], _, _ => rfl
  | y :: l, he, hp => by
    have h1 := he y (List.mem_cons_self ..)
    have h2 := hp y (List.mem_cons_self ..)
    have ih := addA_find (n := n) hx (c := l) (fun c hc => he c (List.mem_cons_of_mem _ hc)) (fun c hc => hp c (List.mem_cons_of_mem _ hc))
    unfold addA
    by_cases hm : y.2.1 = x.1 ∧ y.2.2 = x.2.2
    · rw [if_pos hm]
      unfold findB
      simp only
      by_cases hn : x.1 ≤ n ∧ n < x.2.1
      · rw [if_pos hn, if_pos (by omega)]
      · rw [if_neg hn]
        by_cases hy : y.1 ≤ n ∧ n < y.2.1
        · rw [if_pos hy, if_pos (by omega), hm.2]
        · rw [if_neg hy, if_neg (by omega)]
    · rw [if_neg hm]
      unfold findB
      rw [ih]
      by_cases hn : x.1 ≤ n ∧ n < x.2.1
      · rw [if_pos hn, if_pos hn, if_neg (by omega)]
      · rw [if_neg hn, if_neg hn]
theorem addA_ends {x : AC} (hx : x.1 ≤ x.2.1) : ∀ {c : List AC}, (∀ y ∈ c, y.2.1 ≤ x.1) → ∀ y ∈ addA x c, y.2.1 ≤ x.2.1
  | [], _, y, hy => by
    rw [addA, List.mem_singleton] at hy
    rw [hy]
    exact Int.le_refl _
  | z :: l, he, y, hy => by
    have h1 := he z (List.mem_cons_self ..)
    have h2 : ∀ y ∈ l, y.2.1 ≤ x.1 := fun c hc => he c (List.mem_cons_of_mem _ hc)
    unfold addA at hy
    split at hy
    · rcases List.mem_cons.1 hy with rfl | hy
      · exact Int.le_refl _
      · have := h2 y hy
        omega
    · rcases List.mem_cons.1 hy with rfl | hy
      · omega
      · exact addA_ends hx h2 y hy
theorem addA_valid {x : AC} (hx : vA x = true) : ∀ {c : List AC}, c.all vA = true → (addA x c).all vA = true
  | [], _ => by rw [addA, List.all_cons, hx]; rfl
  | z :: l, h => by
    rw [List.all_cons, Bool.and_eq_true] at h
    have hz := vA_b h.1
    have hb := vA_b hx
    unfold addA
    split
    · rename_i hm
      have : vA (z.1, x.2.1, x.2.2) = true := vA_move (x := x) hx (by omega) (by omega) (by omega)
      rw [List.all_cons, this, h.2]
      rfl
    · rw [List.all_cons, h.1, addA_valid hx h.2]
      rfl
theorem all_pos {c : List AC} (h : c.all vA = true) : ∀ y ∈ c, y.1 < y.2.1 := fun y hy => (vA_b (List.all_eq_true.1 h y hy)).2.1
/-- captions in order are carried behind what there is -/
theorem carL_find {n : Int} : ∀ {xs c : List AC} {T : Int}, (∀ y ∈ c, y.2.1 ≤ T) → c.all vA = true → xs.all vA = true → ordA xs = true → from_ T xs →
    findB n (carL c xs) = (findB n xs).or (findB n c) ∧ (carL c xs).all vA = true
  | [], c, T, _, hv, _, _, _ => ⟨by simp [carL, findB], hv⟩
  | x :: xs, c, T, he, hv, hx, ho, hf => by
    have hT := hf x (List.mem_cons_self ..)
    have hfr := ord_from ho hx
    rw [List.all_cons, Bool.and_eq_true] at hx
    have hb := vA_b hx.1
    have he2 : ∀ y ∈ c, y.2.1 ≤ x.1 := fun y hy => by have := he y hy; omega
    obtain ⟨h1, h2⟩ := carL_find (n := n) (xs := xs) (c := addA x c) (T := x.2.1) (addA_ends (by omega) he2) (addA_valid hx.1 hv) hx.2 (ord_tail ho) hfr
    refine ⟨?_, h2⟩
    show findB n (carL (addA x c) xs) = _
    rw [h1, addA_find hb.2.1 he2 (all_pos hv), show findB n (x :: xs) = if x.1 ≤ n ∧ n < x.2.1 then some x.2.2 else findB n xs from rfl]
    by_cases hn : x.1 ≤ n ∧ n < x.2.1
    · rw [if_pos hn, if_pos hn, findB_before hfr hn.2]
      rfl
    · rw [if_neg hn, if_neg hn]
theorem carL_ends : ∀ {xs c : List AC} {T U : Int}, (∀ y ∈ c, y.2.1 ≤ T) → T ≤ U → xs.all vA = true → ordA xs = true → from_ T xs → (∀ x ∈ xs, x.2.1 ≤ U) → ∀ y ∈ carL c xs, y.2.1 ≤ U
  | [], c, T, U, he, hU, _, _, _, _, y, hy => by have := he y hy; omega
  | x :: xs, c, T, U, he, hU, hx, ho, hf, hxu, y, hy => by
    have hT := hf x (List.mem_cons_self ..)
    have hfr := ord_from ho hx
    rw [List.all_cons, Bool.and_eq_true] at hx
    have hb := vA_b hx.1
    have he2 : ∀ y ∈ c, y.2.1 ≤ x.1 := fun y hy => by have := he y hy; omega
    exact carL_ends (addA_ends (by omega) he2) (hxu x (List.mem_cons_self ..)) hx.2 (ord_tail ho) hfr (fun z hz => hxu z (List.mem_cons_of_mem _ hz)) y hy
theorem shift_find {d n : Int} : ∀ {xs : List AC}, findB n (shiftA d xs) = findB (n - d) xs
  | [] => rfl
  | x :: xs => by
    show findB n ((x.1 + d, x.2.1 + d, x.2.2) :: shiftA d xs) = _
    unfold findB
    simp only
    rw [shift_find (d := d) (n := n) (xs := xs)]
    by_cases h : x.1 ≤ n - d ∧ n - d < x.2.1
    · rw [if_pos h, if_pos (by omega)]
    · rw [if_neg h, if_neg (by omega)]
theorem shift_valid {d : Int} (hd : 0 ≤ d) : ∀ {xs : List AC}, xs.all vA = true → (∀ x ∈ xs, x.2.1 + d ≤ 2147483647) → (shiftA d xs).all vA = true
  | [], _, _ => rfl
  | x :: xs, h, hm => by
    rw [List.all_cons, Bool.and_eq_true] at h
    have hb := vA_b h.1
    have := hm x (List.mem_cons_self ..)
    show (vA (x.1 + d, x.2.1 + d, x.2.2) && (shiftA d xs).all vA) = true
    rw [vA_move (x := x) h.1 (by omega) (by omega) (by omega), shift_valid hd h.2 (fun z hz => hm z (List.mem_cons_of_mem _ hz))]
    rfl
theorem shift_ord {d : Int} : ∀ {xs : List AC}, ordA xs = true → ordA (shiftA d xs) = true
  | [], _ => rfl
  | [x], _ => rfl
  | x :: y :: l, h => by
    have h : (decide (x.2.1 ≤ y.1) && ordA (y :: l)) = true := h
    rw [Bool.and_eq_true, decide_eq_true_eq] at h
    show (decide (x.2.1 + d ≤ y.1 + d) && ordA (shiftA d (y :: l))) = true
    rw [decide_eq_true (by omega), shift_ord h.2]
    rfl
theorem shift_mem {d : Int} {xs : List AC} {y : AC} (h : y ∈ shiftA d xs) : ∃ x ∈ xs, y = (x.1 + d, x.2.1 + d, x.2.2) := by
  obtain ⟨x, hx, rfl⟩ := List.mem_map.1 h
  exact ⟨x, hx, rfl⟩
theorem cut_mem {a b : Int} : ∀ {l : List AC} {x : AC}, x ∈ cutA a b l → ∃ z ∈ l, x = (max z.1 a - a, min z.2.1 b - a, z.2.2) ∧ max z.1 a < min z.2.1 b
  | [], x, h => by cases h
  | (f, t, ss) :: l, x, h => by
    unfold cutA at h
    split at h
    · rename_i hlt
      rcases List.mem_cons.1 h with rfl | h
      · exact ⟨(f, t, ss), List.mem_cons_self .., rfl, hlt⟩
      · obtain ⟨z, hz, h1⟩ := cut_mem h
        exact ⟨z, List.mem_cons_of_mem _ hz, h1⟩
    · obtain ⟨z, hz, h1⟩ := cut_mem h
      exact ⟨z, List.mem_cons_of_mem _ hz, h1⟩
/-- a run: its first frame in the film, its first frame in the medium, its length -/
structure Rn where
  film : Int
  frm : Int
  len : Int
def pieces (l : List AC) (r : Rn) : List AC := shiftA r.film (cutA r.frm (r.frm + r.len) l)
def carR (l c : List AC) (rs : List Rn) : List AC := rs.foldl (fun c r => carL c (pieces l r)) c
def wantR (l : List AC) (n : Int) (o : Option (List ByteArray)) (rs : List Rn) : Option (List ByteArray) := rs.foldl (fun o r => if r.film ≤ n ∧ n < r.film + r.len then findB (r.frm + n - r.film) l else o) o
def RunsOk : Int → List Rn → Prop
  | _, [] => True
  | T, r :: rs => T ≤ r.film ∧ 0 ≤ r.film ∧ 0 ≤ r.frm ∧ 1 ≤ r.len ∧ r.film + r.len ≤ 2147483647 ∧ r.frm + r.len ≤ 2147483647 ∧ RunsOk (r.film + r.len) rs
theorem pieces_ok {l : List AC} {r : Rn} (hl : l.all vA = true) (ho : ordA l = true) (h0 : 0 ≤ r.film) (h1 : 0 ≤ r.frm) (h2 : 1 ≤ r.len) (h3 : r.film + r.len ≤ 2147483647) :
    (pieces l r).all vA = true ∧ ordA (pieces l r) = true ∧ from_ r.film (pieces l r) ∧ (∀ x ∈ pieces l r, x.2.1 ≤ r.film + r.len) := by
  have hv := cut_valid (b := r.frm + r.len) h1 hl
  have hm : ∀ x ∈ cutA r.frm (r.frm + r.len) l, 0 ≤ x.1 ∧ x.2.1 ≤ r.len := fun x hx => by
    obtain ⟨z, _, rfl, _⟩ := cut_mem hx
    simp only
    omega
  refine ⟨shift_valid h0 hv (fun x hx => by have := hm x hx; omega), shift_ord (cut_ord hl ho), fun y hy => ?_, fun y hy => ?_⟩
  · obtain ⟨x, hx, rfl⟩ := shift_mem hy
    have := hm x hx
    simp only
    omega
  · obtain ⟨x, hx, rfl⟩ := shift_mem hy
    have := hm x hx
    simp only
    omega
theorem pieces_find {l : List AC} {r : Rn} {n : Int} (hl : l.all vA = true) (ho : ordA l = true) (h0 : 0 ≤ r.film) (h1 : 0 ≤ r.frm) (h2 : 1 ≤ r.len) (h3 : r.film + r.len ≤ 2147483647) :
    findB n (pieces l r) = if r.film ≤ n ∧ n < r.film + r.len then findB (r.frm + n - r.film) l else none := by
  obtain ⟨p1, p2, p3, p4⟩ := pieces_ok hl ho h0 h1 h2 h3
  by_cases hn : r.film ≤ n ∧ n < r.film + r.len
  · rw [if_pos hn]
    unfold pieces
    rw [shift_find, cut_find (by omega) (by omega)]
    congr 1
    omega
  · rw [if_neg hn]
    by_cases h4 : n < r.film
    · exact findB_before p3 h4
    · exact findB_after p4 (by omega)
/-- what carried captions show -/
theorem carR_find {l : List AC} {n : Int} (hl : l.all vA = true) (ho : ordA l = true) : ∀ {rs : List Rn} {c : List AC} {T : Int}, (∀ y ∈ c, y.2.1 ≤ T) → c.all vA = true → RunsOk T rs →
    findB n (carR l c rs) = wantR l n (findB n c) rs ∧ (carR l c rs).all vA = true
  | [], c, T, _, hv, _ => ⟨rfl, hv⟩
  | r :: rs, c, T, he, hv, ⟨h1, h2, h3, h4, h5, h6, h7⟩ => by
    obtain ⟨p1, p2, p3, p4⟩ := pieces_ok hl ho h2 h3 h4 h5
    have hf : from_ T (pieces l r) := fun c hc => by have := p3 c hc; omega
    obtain ⟨q1, q2⟩ := carL_find (n := n) he hv p1 p2 hf
    have q3 := carL_ends (U := r.film + r.len) he (by omega) p1 p2 hf p4
    obtain ⟨z1, z2⟩ := carR_find hl ho q3 q2 h7 (n := n)
    refine ⟨?_, z2⟩
    show findB n (carR l (carL c (pieces l r)) rs) = wantR l n (if r.film ≤ n ∧ n < r.film + r.len then findB (r.frm + n - r.film) l else findB n c) rs
    rw [z1, q1, pieces_find hl ho h2 h3 h4 h5]
    congr 1
    by_cases hn : r.film ≤ n ∧ n < r.film + r.len
    · rw [if_pos hn, if_pos hn, findB_after he (by omega)]
      cases findB (r.frm + n - r.film) l <;> rfl
    · rw [if_neg hn, if_neg hn]
      rfl
theorem addA_new {x : AC} : ∀ {c : List AC}, (∀ y ∈ c, ¬ (y.2.1 = x.1 ∧ y.2.2 = x.2.2)) → addA x c = c ++ [x]
  | [], _ => rfl
  | y :: l, h => by
    unfold addA
    rw [if_neg (h y (List.mem_cons_self ..)), addA_new (fun z hz => h z (List.mem_cons_of_mem _ hz))]
    rfl
theorem carL_new : ∀ {xs c : List AC}, (∀ y ∈ c ++ xs, ∀ x ∈ xs, ¬ (y.2.1 = x.1 ∧ y.2.2 = x.2.2)) → carL c xs = c ++ xs
  | [], c, _ => by simp [carL]
  | x :: xs, c, h => by
    show carL (addA x c) xs = _
    rw [addA_new (fun y hy => h y (List.mem_append.2 (.inl hy)) x (List.mem_cons_self ..)), carL_new (xs := xs) (c := c ++ [x]) (fun y hy z hz => h y (by simpa using hy) z (List.mem_cons_of_mem _ hz))]
    simp
theorem carL_skip {z : AC} : ∀ {xs c : List AC}, (∀ x ∈ xs, ¬ (z.2.1 = x.1 ∧ z.2.2 = x.2.2)) → carL (z :: c) xs = z :: carL c xs
  | [], c, _ => rfl
  | x :: xs, c, h => by
    show carL (addA x (z :: c)) xs = z :: carL (addA x c) xs
    have : addA x (z :: c) = z :: addA x c := by
      conv => lhs; unfold addA
      rw [if_neg (h x (List.mem_cons_self ..))]
    rw [this]
    exact carL_skip (fun y hy => h y (List.mem_cons_of_mem _ hy))
/-- no two captions with the same lines touch -/
def NoT (l : List AC) : Prop := ∀ x ∈ l, ∀ y ∈ l, ¬ (x.2.1 = y.1 ∧ x.2.2 = y.2.2)
theorem NoT.tail {z : AC} {l : List AC} (h : NoT (z :: l)) : NoT l := fun x hx y hy => h x (List.mem_cons_of_mem _ hx) y (List.mem_cons_of_mem _ hy)
theorem NoT.cut {b : Int} {l : List AC} (hl : l.all vA = true) (h : NoT l) : NoT (cutA 0 b l) := fun x hx y hy => by
  obtain ⟨z, hz, rfl, h1⟩ := cut_mem hx
  obtain ⟨u, hu, rfl, h2⟩ := cut_mem hy
  have b1 := vA_b (List.all_eq_true.1 hl z hz)
  have b2 := vA_b (List.all_eq_true.1 hl u hu)
  rintro ⟨e1, e2⟩
  simp only at e1 e2
  exact h z hz u hu ⟨by omega, e2⟩
theorem car_whole {b : Int} {l : List AC} (hl : l.all vA = true) (h : NoT l) : carL [] (cutA 0 b l) = cutA 0 b l := by
  rw [carL_new (c := []) (fun y hy x hx => NoT.cut hl h y (by simpa using hy) x hx)]
  rfl
theorem shift_zero (l : List AC) : shiftA 0 l = l := by
  unfold shiftA
  simp
theorem cut_late {a b : Int} (hab : 0 ≤ a) : ∀ {l : List AC}, from_ a l → shiftA a (cutA a b l) = cutA 0 b l
  | [], _ => rfl
  | (f, t, ss) :: l, h => by
    have h1 := h (f, t, ss) (List.mem_cons_self ..)
    have h2 : from_ a l := fun c hc => h c (List.mem_cons_of_mem _ hc)
    simp only at h1
    unfold cutA
    have e1 : max f a = f := by omega
    have e2 : max f 0 = f := by omega
    rw [e1, e2]
    by_cases hlt : f < min t b
    · rw [if_pos hlt, if_pos hlt]
      show (f - a + a, min t b - a + a, ss) :: shiftA a (cutA a b l) = _
      rw [cut_late hab h2]
      congr 2
      · omega
      · congr 1
        omega
    · rw [if_neg hlt, if_neg hlt]
      exact cut_late hab h2
theorem cut_early {b : Int} : ∀ {l : List AC}, from_ b l → cutA 0 b l = []
  | [], _ => rfl
  | (f, t, ss) :: l, h => by
    have h1 := h (f, t, ss) (List.mem_cons_self ..)
    simp only at h1
    unfold cutA
    rw [if_neg (by omega)]
    exact cut_early (fun c hc => h c (List.mem_cons_of_mem _ hc))
/-- a cut through a caption leaves one caption -/
theorem car_split {m b : Int} (h0 : 0 < m) (hm : m < b) : ∀ {l : List AC}, l.all vA = true → ordA l = true → NoT l → carL (cutA 0 m l) (shiftA m (cutA m b l)) = cutA 0 b l
  | [], _, _, _ => rfl
  | z :: l, hl, ho, hn => by
    have hf := ord_from ho hl
    have hl' := hl
    rw [List.all_cons, Bool.and_eq_true] at hl
    have hz := vA_b hl.1
    have ih := car_split h0 hm hl.2 (ord_tail ho) hn.tail
    obtain ⟨f, t, ss⟩ := z
    simp only at hz hf
    by_cases c1 : t ≤ m
    · have e1 : cutA 0 m ((f, t, ss) :: l) = (f, t, ss) :: cutA 0 m l := by
        conv => lhs; unfold cutA
        rw [if_pos (by omega)]
        congr 2
        · omega
        · congr 1
          omega
      have e2 : cutA m b ((f, t, ss) :: l) = cutA m b l := by
        conv => lhs; unfold cutA
        rw [if_neg (by omega)]
      have e3 : cutA 0 b ((f, t, ss) :: l) = (f, t, ss) :: cutA 0 b l := by
        conv => lhs; unfold cutA
        rw [if_pos (by omega)]
        congr 2
        · omega
        · congr 1
          omega
      rw [e1, e2, e3, carL_skip, ih]
      intro x hx
      obtain ⟨y, hy, rfl⟩ := shift_mem hx
      obtain ⟨u, hu, rfl, h2⟩ := cut_mem hy
      have h3 := hf u hu
      rintro ⟨g1, g2⟩
      simp only at g1 g2
      exact hn (f, t, ss) (List.mem_cons_self ..) u (List.mem_cons_of_mem _ hu) ⟨by simp only; omega, g2⟩
    · by_cases c2 : f < m
      · have hfm : from_ m l := fun c hc => by have := hf c hc; omega
        have e1 : cutA 0 m ((f, t, ss) :: l) = [(f, m, ss)] := by
          conv => lhs; unfold cutA
          rw [if_pos (by omega), cut_early hfm]
          congr 2
          · omega
          · congr 1
            omega
        have e2 : cutA m b ((f, t, ss) :: l) = (0, min t b - m, ss) :: cutA m b l := by
          conv => lhs; unfold cutA
          rw [if_pos (by omega)]
          congr 2
          omega
        have e3 : cutA 0 b ((f, t, ss) :: l) = (f, min t b, ss) :: cutA 0 b l := by
          conv => lhs; unfold cutA
          rw [if_pos (by omega)]
          congr 2
          · omega
          · congr 1
            omega
        have e4 : shiftA m ((0, min t b - m, ss) :: cutA m b l) = (m, min t b, ss) :: cutA 0 b l := by
          show (0 + m, min t b - m + m, ss) :: shiftA m (cutA m b l) = _
          rw [cut_late (by omega) hfm]
          congr 2
          · omega
          · congr 1
            omega
        rw [e1, e2, e3, e4]
        show carL (addA (m, min t b, ss) [(f, m, ss)]) (cutA 0 b l) = _
        have e5 : addA (m, min t b, ss) [(f, m, ss)] = [(f, min t b, ss)] := by
          unfold addA
          rw [if_pos ⟨rfl, rfl⟩]
        have hN := NoT.cut (b := b) hl' hn
        rw [e3] at hN
        rw [e5, carL_new (fun y hy x hx => hN y (by simpa using hy) x (List.mem_cons_of_mem _ hx))]
        rfl
      · have hfm : from_ m ((f, t, ss) :: l) := fun c hc => by
          rcases List.mem_cons.1 hc with rfl | hc
          · simp only; omega
          · have := hf c hc; omega
        rw [cut_early hfm, cut_late (by omega) hfm]
        exact car_whole hl' hn
/-- where the last run ends -/
def endR (T : Int) (rs : List Rn) : Int := rs.foldl (fun _ r => r.film + r.len) T
theorem endR_snoc (T : Int) (rs : List Rn) (r : Rn) : endR T (rs ++ [r]) = r.film + r.len := by
  unfold endR
  rw [List.foldl_append]
  rfl
theorem RunsOk.snoc {r : Rn} (h2 : 0 ≤ r.film) (h3 : 0 ≤ r.frm) (h4 : 1 ≤ r.len) (h5 : r.film + r.len ≤ 2147483647) (h6 : r.frm + r.len ≤ 2147483647) : ∀ {rs : List Rn} {T : Int}, RunsOk T rs → endR T rs ≤ r.film → RunsOk T (rs ++ [r])
  | [], T, _, h => ⟨h, h2, h3, h4, h5, h6, trivial⟩
  | x :: rs, T, ⟨a1, a2, a3, a4, a5, a6, a7⟩, h => ⟨a1, a2, a3, a4, a5, a6, RunsOk.snoc h2 h3 h4 h5 h6 a7 h⟩
theorem wantR_snoc (l : List AC) (n : Int) (o : Option (List ByteArray)) (rs : List Rn) (r : Rn) : wantR l n o (rs ++ [r]) = if r.film ≤ n ∧ n < r.film + r.len then findB (r.frm + n - r.film) l else wantR l n o rs := by
  unfold wantR
  rw [List.foldl_append]
  rfl
theorem carR_snoc (l c : List AC) (rs : List Rn) (r : Rn) : carR l c (rs ++ [r]) = carL (carR l c rs) (pieces l r) := by
  unfold carR
  rw [List.foldl_append]
  rfl
end Go.Proofs.YthadhmhbbfjomaaGreatDoor
