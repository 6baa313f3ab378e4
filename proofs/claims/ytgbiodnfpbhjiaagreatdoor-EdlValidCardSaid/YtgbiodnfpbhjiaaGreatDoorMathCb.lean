/-
  Plain law of clips: packing in steps, what packing keeps.
  Conditions: none.
-/
import Derived.Test.YtgbiodnfpbhjiaaGreatDoorMathCa
namespace Go.Proofs.YtgbiodnfpbhjiaaGreatDoor
set_option linter.unusedVariables false
set_option linter.unusedSimpArgs false

theorem cont_longer (m c : Cl) (n : Int) : cont m (longer c n) = cont m c := by
  unfold cont
  congr 1
  rw [decide_eq_decide]
  unfold nxt longer
  cases c
  simp only [Cl.mk.injEq, true_and]
theorem longer_len (m : Cl) (n : Int) : (longer m n).len = m.len + n := rfl
theorem longer_twice (m : Cl) (a b : Int) : longer (longer m a) b = longer m (a + b) := by unfold longer; simp only [Cl.mk.injEq, and_true]; omega
/-- no clip continues the one before it -/
def Packed : List Cl → Prop
  | [] => True
  | [_] => True
  | c :: d :: l => cont c d = false ∧ Packed (d :: l)
theorem Packed.tail {c : Cl} {l : List Cl} (h : Packed (c :: l)) : Packed l := by
  cases l with
  | nil => trivial
  | cons d l => exact h.2
theorem pkGo_ne (m : Cl) (l : List Cl) : ∃ n r, pkGo m l = longer m n :: r := by
  induction l generalizing m with
  | nil => exact ⟨0, [], by unfold pkGo longer; simp⟩
  | cons c l ih =>
    unfold pkGo
    split
    · obtain ⟨n, r, h⟩ := ih (longer m c.len)
      exact ⟨c.len + n, r, by rw [h, longer_twice]⟩
    · exact ⟨0, pkGo c l, by unfold longer; simp⟩
theorem pkGo_packed (m : Cl) (l : List Cl) : Packed (pkGo m l) := by
  induction l generalizing m with
  | nil => trivial
  | cons c l ih =>
    unfold pkGo
    split
    · exact ih _
    · rename_i h
      obtain ⟨n, r, h2⟩ := pkGo_ne c l
      have := ih c
      rw [h2] at this ⊢
      exact ⟨by rw [cont_longer]; simpa using h, this⟩
theorem pk_packed (l : List Cl) : Packed (pk l) := by
  cases l with
  | nil => trivial
  | cons c l => exact pkGo_packed c l
theorem pkGo_of_packed : ∀ (l : List Cl) (m : Cl), Packed (m :: l) → pkGo m l = m :: l
  | [], m, _ => rfl
  | c :: l, m, h => by
    rw [pkGo, if_neg (by rw [h.1]; simp), pkGo_of_packed l c h.2]
theorem pk_of_packed {l : List Cl} (h : Packed l) : pk l = l := by
  cases l with
  | nil => rfl
  | cons c l => exact pkGo_of_packed l c h
theorem pk_idem (l : List Cl) : pk (pk l) = pk l := pk_of_packed (pk_packed l)
/-- packing in two steps -/
theorem pkGo_two : ∀ (x : List Cl) (m : Cl) (y : List Cl), ∃ i t, pkGo m x = i ++ [t] ∧ pkGo m (x ++ y) = i ++ pkGo t y
  | [], m, y => ⟨[], m, rfl, rfl⟩
  | c :: x, m, y => by
    rw [List.cons_append, pkGo, pkGo]
    split
    · exact pkGo_two x _ y
    · obtain ⟨i, t, h1, h2⟩ := pkGo_two x c y
      exact ⟨m :: i, t, by rw [h1]; rfl, by rw [h2]; rfl⟩
theorem pkGo_pre : ∀ (i : List Cl) (m t : Cl) (y : List Cl), Packed (m :: (i ++ [t])) → pkGo m (i ++ t :: y) = m :: i ++ pkGo t y
  | [], m, t, y, h => by
    rw [List.nil_append, pkGo, if_neg (by rw [h.1]; simp)]
    rfl
  | c :: i, m, t, y, h => by
    rw [List.cons_append, pkGo, if_neg (by rw [h.1]; simp), pkGo_pre i c t y h.2]
    rfl
theorem pk_step (x y : List Cl) : pk (pk x ++ y) = pk (x ++ y) := by
  cases x with
  | nil => rfl
  | cons c x =>
    obtain ⟨i, t, h1, h2⟩ := pkGo_two x c y
    have hp := pkGo_packed c x
    show pk (pkGo c x ++ y) = pkGo c (x ++ y)
    rw [h1] at hp ⊢
    rw [h2]
    cases i with
    | nil => rfl
    | cons d i =>
      show pkGo d ((i ++ [t]) ++ y) = _
      rw [List.append_assoc]
      exact pkGo_pre i d t y hp
theorem pkGo_pos (m : Cl) (l : List Cl) : 1 ≤ (pkGo m l).length := by
  obtain ⟨n, r, h⟩ := pkGo_ne m l
  rw [h, List.length_cons]
  omega
theorem pk_mono (x y : List Cl) : (pk x).length ≤ (pk (x ++ y)).length := by
  cases x with
  | nil => exact Nat.zero_le _
  | cons c x =>
    obtain ⟨i, t, h1, h2⟩ := pkGo_two x c y
    show (pkGo c x).length ≤ (pkGo c (x ++ y)).length
    rw [h1, h2, List.length_append, List.length_append]
    have := pkGo_pos t y
    simp only [List.length_singleton]
    omega
theorem pkGo_len (m : Cl) (l : List Cl) : (pkGo m l).length ≤ l.length + 1 := by
  induction l generalizing m with
  | nil => exact Nat.le_refl _
  | cons c l ih =>
    unfold pkGo
    split
    · have := ih (longer m c.len); simp only [List.length_cons]; omega
    · have := ih c; simp only [List.length_cons]; omega
theorem pk_len (l : List Cl) : (pk l).length ≤ l.length := by
  cases l with
  | nil => exact Nat.le_refl _
  | cons c l => exact pkGo_len c l
theorem pkGo_tot (m : Cl) (l : List Cl) : tot (pkGo m l) = m.len + tot l := by
  induction l generalizing m with
  | nil => simp [pkGo, tot]
  | cons c l ih =>
    unfold pkGo
    split
    · rw [ih, longer_len]; simp only [tot]; omega
    · simp only [tot, ih]
theorem pk_tot (l : List Cl) : tot (pk l) = tot l := by
  cases l with
  | nil => rfl
  | cons c l => exact pkGo_tot c l
/-- two clips, the second of which continues the first, are packed as one -/
theorem pkGo_join {m c d : Cl} {q : List Cl} (hm : VL m) (hc : VL c) (h : cont c d = true) : pkGo m (c :: d :: q) = pkGo m (longer c d.len :: q) := by
  rw [pkGo, pkGo.eq_def m (longer c d.len :: q)]
  simp only [cont_longer]
  split
  · rename_i hk
    rw [pkGo, cont_ends (ends_join ⟨hm.a, hm.b⟩ (by have := hm.len; omega) hm hc rfl hk), if_pos h, longer_twice]
    rfl
  · rw [pkGo, if_pos h]
theorem VL.longer {c : Cl} (h : VL c) {n : Int} (h0 : 0 ≤ n) (h1 : c.len + n ≤ 2147483647) : VL (longer c n) := ⟨by rw [longer_len]; have := h.len; omega, h.a, h.b, h.gap⟩
theorem tot_nonneg {l : List Cl} (h : ∀ c ∈ l, VL c) : 0 ≤ tot l := by
  induction l with
  | nil => exact Int.le_refl _
  | cons d l ih =>
    have := (h d List.mem_cons_self).len
    have := ih (fun x hx => h x (List.mem_cons_of_mem _ hx))
    simp only [tot]
    omega
theorem pkGo_join_in : ∀ (p : List Cl) (m c d : Cl) (q : List Cl), VL m → VL c → VL d → (∀ x ∈ p, VL x) → m.len + tot p + c.len + d.len ≤ 2147483647 → cont c d = true → pkGo m (p ++ c :: d :: q) = pkGo m (p ++ longer c d.len :: q)
  | [], m, c, d, q, hm, hc, hd, hp, ht, h => pkGo_join hm hc h
  | x :: p, m, c, d, q, hm, hc, hd, hp, ht, h => by
    have hx := hp x List.mem_cons_self
    have hp' : ∀ y ∈ p, VL y := fun y hy => hp y (List.mem_cons_of_mem _ hy)
    have hx1 := hx.len
    have hm1 := hm.len
    have hc1 := hc.len
    have hd1 := hd.len
    have h0 := tot_nonneg hp'
    simp only [tot] at ht
    rw [List.cons_append, List.cons_append, pkGo, pkGo]
    split
    · exact pkGo_join_in p _ c d q (hm.longer (by omega) (by omega)) hc hd hp' (by rw [longer_len]; omega) h
    · rw [pkGo_join_in p x c d q hx hc hd hp' (by omega) h]
theorem pk_join {p : List Cl} {c d : Cl} {q : List Cl} (hc : VL c) (hd : VL d) (hp : ∀ x ∈ p, VL x) (ht : tot p + c.len + d.len ≤ 2147483647) (h : cont c d = true) : pk (p ++ c :: d :: q) = pk (p ++ longer c d.len :: q) := by
  cases p with
  | nil =>
    show pkGo c (d :: q) = pkGo (longer c d.len) q
    rw [pkGo, if_pos h]
  | cons m p =>
    exact pkGo_join_in p m c d q (hp m List.mem_cons_self) hc hd (fun x hx => hp x (List.mem_cons_of_mem _ hx)) (by simp only [tot] at ht; omega) h
/-- what packing keeps of every clip -/
theorem pkGo_all {P : Cl → Prop} (hP : ∀ m c, P m → P c → cont m c = true → m.len + c.len ≤ 2147483647 → P (longer m c.len)) (hl : ∀ c, P c → 1 ≤ c.len) : ∀ (l : List Cl) (m : Cl), P m → (∀ c ∈ l, P c) → m.len + tot l ≤ 2147483647 → ∀ c ∈ pkGo m l, P c
  | [], m, hm, _, _, c, hc => by rw [pkGo, List.mem_singleton] at hc; rw [hc]; exact hm
  | d :: l, m, hm, h, ht, c, hc => by
    have hd := h d List.mem_cons_self
    have h' : ∀ c ∈ l, P c := fun c hc => h c (List.mem_cons_of_mem _ hc)
    have h0 : 0 ≤ tot l := by
      clear ht hc h
      induction l with
      | nil => exact Int.le_refl _
      | cons d l ih =>
        have := hl _ (h' d List.mem_cons_self)
        have := ih (fun x hx => h' x (List.mem_cons_of_mem _ hx))
        simp only [tot]
        omega
    simp only [tot] at ht
    have := hl _ hd
    have := hl _ hm
    rw [pkGo] at hc
    split at hc
    · rename_i hk
      exact pkGo_all hP hl l _ (hP m d hm hd hk (by omega)) h' (by rw [longer_len]; omega) c hc
    · rcases List.mem_cons.1 hc with rfl | hc
      · exact hm
      · exact pkGo_all hP hl l d hd h' (by omega) c hc
theorem pk_all {P : Cl → Prop} (hP : ∀ m c, P m → P c → cont m c = true → m.len + c.len ≤ 2147483647 → P (longer m c.len)) (hl : ∀ c, P c → 1 ≤ c.len) {l : List Cl} (h : ∀ c ∈ l, P c) (ht : tot l ≤ 2147483647) : ∀ c ∈ pk l, P c := by
  cases l with
  | nil => intro c hc; cases hc
  | cons m l => exact pkGo_all hP hl l m (h m List.mem_cons_self) (fun c hc => h c (List.mem_cons_of_mem _ hc)) ht
end Go.Proofs.YtgbiodnfpbhjiaaGreatDoor
