/-
  Plain law: what Parse of package captions makes of a text; that it reads a formatted text back.
  Conditions: none.
-/
import Derived.Test.YtckmebfgianeoaaDoorWalkFo
import Derived.Test.YtckmebfgianeoaaDoorWalkFk
import Derived.Lib.IndexMore
namespace Go.Proofs.YtckmebfgianeoaaDoor
open Go.RowKit Go.Lib
set_option linter.unusedVariables false

def isDg (b : UInt8) : Bool := decide (48 ≤ b.toNat) && decide (b.toNat ≤ 57)
def dgF (n : Int) (b : UInt8) : Int := 10 * n + ((b.toNat : Int) - 48)
/-- the number that a text of digits says -/
def dgV (l : List UInt8) : Option Int := if l.all isDg then some (l.foldl dgF 0) else none
def arw : List UInt8 := [32, 45, 45, 62, 32]
/-- the frame at a number of milliseconds -/
def posN (ms num den : Int) : Int := (2 * (ms * num) + 1000 * den) / (2 * (1000 * den))
def ptP (num den : Int) (l : List UInt8) : Option Int :=
  if l.length = 12 then
    match dgV (l.take 2), dgV ((l.drop 3).take 2), dgV ((l.drop 6).take 2), dgV ((l.drop 9).take 3) with
    | some a, some b, some c, some d => some (posN (((a * 60 + b) * 60 + c) * 1000 + d) num den)
    | _, _, _, _ => none
  else none
/-- the lines of a caption, up to an empty one -/
def plP : Nat → List (List UInt8) → List UInt8 → Option (List (List UInt8) × List UInt8)
  | 0, _, _ => none
  | f + 1, acc, s =>
    if (cut s [10]).2.2 = false ∨ 4 < acc.length then none
    else if (cut s [10]).1 = [] then some (acc, (cut s [10]).2.1)
    else plP f (acc ++ [(cut s [10]).1]) (cut s [10]).2.1
/-- a caption and what follows -/
def pcP (num den : Int) (s : List UInt8) : Option (AC × List UInt8) :=
  let s1 := (cut s [10]).2.1
  let tm := (cut s1 [10]).1
  let s2 := (cut s1 [10]).2.1
  if (cut tm arw).2.2 = false then none
  else match ptP num den (cut tm arw).1, ptP num den (cut tm arw).2.1 with
    | some a, some b => match plP 6 [] s2 with
      | some (ls, r) => some ((a, b, ls.map (fun l => (⟨l.toArray⟩ : ByteArray))), r)
      | none => none
    | _, _ => none
def paP (num den : Int) : Nat → List UInt8 → Option (List AC)
  | 0, s => if s = [] then some [] else none
  | f + 1, s => if s = [] then some [] else match pcP num den s with
    | none => none
    | some (c, r) => (paP num den f r).map (c :: ·)

theorem cut_at (x : UInt8) (t a b : List UInt8) (h : ∀ y ∈ a, y ≠ x) : cut (a ++ x :: (t ++ b)) (x :: t) = (a, b, true) := by
  have hi : index (a ++ x :: (t ++ b)) (x :: t) = a.length := by
    refine index_first (by simp) ?_ (fun j hj => ?_)
    · unfold occAt
      rw [List.drop_left]
      rw [show x :: (t ++ b) = (x :: t) ++ b from rfl]
      exact List.isPrefixOf_iff_prefix.2 (List.prefix_append _ _)
    · unfold occAt
      cases hp : (x :: t).isPrefixOf ((a ++ x :: (t ++ b)).drop j) with
      | false => rfl
      | true =>
        rw [List.drop_append_of_le_length (by omega), List.drop_eq_getElem_cons hj] at hp
        simp only [List.cons_append, List.isPrefixOf, Bool.and_eq_true, beq_iff_eq] at hp
        exact absurd hp.1.symm (h _ (List.getElem_mem hj))
  unfold cut
  rw [hi, if_pos (by omega)]
  have e1 : ((a.length : Int)).toNat = a.length := by omega
  rw [e1, List.take_left, ← List.drop_drop, List.drop_left]
  rw [show x :: (t ++ b) = (x :: t) ++ b from rfl, List.drop_left]
theorem cut_nl (a b : List UInt8) (h : ∀ y ∈ a, y ≠ 10) : cut (a ++ 10 :: b) [10] = (a, b, true) := cut_at 10 [] a b h

theorem dgV_two : ∀ n : Fin 100, dgV (digL 2 ((n.1 : Nat) : Int)) = some ((n.1 : Nat) : Int) := by decide +kernel
theorem dgV_three : ∀ n : Fin 1000, dgV (digL 3 ((n.1 : Nat) : Int)) = some ((n.1 : Nat) : Int) := by decide +kernel
theorem dg2_no : ∀ n : Fin 100, ∀ y ∈ digL 2 ((n.1 : Nat) : Int), y ≠ 32 ∧ y ≠ 10 := by decide +kernel
theorem dg3_no : ∀ n : Fin 1000, ∀ y ∈ digL 3 ((n.1 : Nat) : Int), y ≠ 32 ∧ y ≠ 10 := by decide +kernel
theorem dgV2 {n : Int} (h0 : 0 ≤ n) (h1 : n < 100) : dgV (digL 2 n) = some n := by
  have := dgV_two ⟨n.toNat, by omega⟩
  simp only at this
  rwa [show ((n.toNat : Nat) : Int) = n by omega] at this
theorem dgV3 {n : Int} (h0 : 0 ≤ n) (h1 : n < 1000) : dgV (digL 3 n) = some n := by
  have := dgV_three ⟨n.toNat, by omega⟩
  simp only at this
  rwa [show ((n.toNat : Nat) : Int) = n by omega] at this
theorem dg2n {n : Int} (h0 : 0 ≤ n) (h1 : n < 100) : ∀ y ∈ digL 2 n, y ≠ 32 ∧ y ≠ 10 := by
  have := dg2_no ⟨n.toNat, by omega⟩
  simp only at this
  rwa [show ((n.toNat : Nat) : Int) = n by omega] at this
theorem dg3n {n : Int} (h0 : 0 ≤ n) (h1 : n < 1000) : ∀ y ∈ digL 3 n, y ≠ 32 ∧ y ≠ 10 := by
  have := dg3_no ⟨n.toNat, by omega⟩
  simp only at this
  rwa [show ((n.toNat : Nat) : Int) = n by omega] at this
theorem clkT_no {q : Int} (h0 : 0 ≤ q) (h1 : q < 360000000) : ∀ y ∈ clkT q, y ≠ 32 ∧ y ≠ 10 := by
  intro y hy
  unfold clkT at hy
  simp only [List.mem_append, List.mem_cons] at hy
  rcases hy with h | h | h | h | h | h | h
  · exact dg2n (by omega) (by omega) y h
  · subst h; decide
  · exact dg2n (by omega) (by omega) y h
  · subst h; decide
  · exact dg2n (by omega) (by omega) y h
  · subst h; decide
  · exact dg3n (by omega) (by omega) y h
theorem len2 {l : List UInt8} (h : l.length = 2) : ∃ a b, l = [a, b] := by
  match l, h with
  | [a, b], _ => exact ⟨a, b, rfl⟩
theorem len3 {l : List UInt8} (h : l.length = 3) : ∃ a b c, l = [a, b, c] := by
  match l, h with
  | [a, b, c], _ => exact ⟨a, b, c, rfl⟩
theorem posN_ms {n num den : Int} (h1 : 1 ≤ num) (hd : 1 ≤ den) (h2 : num ≤ 240 * den) : posN (msQ n num den) num den = n := by
  unfold posN msQ
  have h3 := Int.mul_ediv_add_emod (2 * (n * (1000 * den)) + num) (2 * num)
  have h4 := Int.emod_nonneg (2 * (n * (1000 * den)) + num) (show 2 * num ≠ 0 by omega)
  have h5 := Int.emod_lt_of_pos (2 * (n * (1000 * den)) + num) (show 0 < 2 * num by omega)
  generalize (2 * (n * (1000 * den)) + num) / (2 * num) = m at *
  generalize (2 * (n * (1000 * den)) + num) % (2 * num) = r at *
  have h6 : 2 * num * m = 2 * (m * num) := by grind
  have h7 : 2 * (m * num) + 1000 * den = (num - r + 1000 * den) + 2 * (1000 * den) * n := by grind
  rw [h7, Int.add_mul_ediv_left _ _ (by omega), Int.ediv_eq_zero_of_lt (by omega) (by omega)]
  omega
theorem ptP_clk {n num den : Int} (h1 : 1 ≤ num) (hd : 1 ≤ den) (h2 : num ≤ 240 * den) (h0 : 0 ≤ msQ n num den) (h3 : msQ n num den < 360000000) : ptP num den (clkT (msQ n num den)) = some n := by
  have hp := posN_ms (n := n) h1 hd h2
  generalize msQ n num den = q at *
  unfold ptP
  rw [if_pos (clkT_len q)]
  have e1 := dgV2 (n := q / 3600000) (by omega) (by omega)
  have e2 := dgV2 (n := q / 60000 % 60) (by omega) (by omega)
  have e3 := dgV2 (n := q / 1000 % 60) (by omega) (by omega)
  have e4 := dgV3 (n := q % 1000) (by omega) (by omega)
  unfold clkT
  obtain ⟨a0, a1, ha⟩ := len2 (digL_len 2 (q / 3600000))
  obtain ⟨b0, b1, hb⟩ := len2 (digL_len 2 (q / 60000 % 60))
  obtain ⟨c0, c1, hc⟩ := len2 (digL_len 2 (q / 1000 % 60))
  obtain ⟨d0, d1, d2, hd3⟩ := len3 (digL_len 3 (q % 1000))
  rw [ha] at e1 ⊢
  rw [hb] at e2 ⊢
  rw [hc] at e3 ⊢
  rw [hd3] at e4 ⊢
  simp only [List.cons_append, List.nil_append, List.take_succ_cons, List.take_zero, List.drop_succ_cons, List.drop_zero, e1, e2, e3, e4]
  rw [show ((q / 3600000 * 60 + q / 60000 % 60) * 60 + q / 1000 % 60) * 1000 + q % 1000 = q by omega, hp]
theorem plP_lin : ∀ (ss : List ByteArray) (acc : List (List UInt8)) (f : Nat) (r : List UInt8), (∀ s ∈ ss, vLine s = true) → acc.length + ss.length ≤ 4 → ss.length < f →
    plP f acc (linT ss ++ 10 :: r) = some (acc ++ ss.map (fun s => s.data.toList), r)
  | [], acc, 0, r, _, _, hf => by cases hf
  | s :: ss, acc, 0, r, _, _, hf => by cases hf
  | [], acc, f + 1, r, _, ha, _ => by
    have e : cut (linT [] ++ 10 :: r) [10] = ([], r, true) := cut_nl [] r (fun y hy => by cases hy)
    rw [plP, e, if_neg (by simp; simpa using ha), if_pos rfl]
    simp
  | s :: ss, acc, f + 1, r, hv, ha, hf => by
    have hs := hv s (List.mem_cons_self ..)
    unfold vLine at hs
    simp only [Bool.and_eq_true, decide_eq_true_eq] at hs
    have hb := List.all_eq_true.1 hs.2
    have hno : ∀ y ∈ s.data.toList, y ≠ 10 := fun y hy he => by
      have := hb y hy
      subst he
      revert this; decide
    have e : cut (linT (s :: ss) ++ 10 :: r) [10] = (s.data.toList, linT ss ++ 10 :: r, true) := by
      have : linT (s :: ss) ++ 10 :: r = s.data.toList ++ 10 :: (linT ss ++ 10 :: r) := by unfold linT; simp
      rw [this]
      exact cut_nl _ _ hno
    have hne : s.data.toList ≠ [] := fun h => by have := ba_len s; rw [h] at this; simp at this; omega
    simp only [List.length_cons] at ha hf
    rw [plP, e, if_neg (by simp; omega), if_neg hne, plP_lin ss (acc ++ [s.data.toList]) f r (fun x hx => hv x (List.mem_cons_of_mem _ hx)) (by simp; omega) (by omega)]
    simp
theorem itoa_no (k : Nat) : ∀ y ∈ itoa ((k : Int) + 1), y ≠ 10 := by
  intro y hy
  have e : itoa ((k : Int) + 1) = decDigits (k + 1) := by have := itoa_nonneg (k + 1); rw [← this]; rfl
  rw [e] at hy
  have : ∀ (v : Nat), ∀ y ∈ decDigits v, y ≠ 10 := by
    intro v
    induction v using Nat.strongRecOn with
    | _ v ih =>
      intro y hy
      rw [decDigits] at hy
      split at hy
      · rename_i h
        rw [List.mem_singleton.1 hy]
        intro he
        have := congrArg UInt8.toNat he
        rw [digit_byte h] at this
        have h10 : (10 : UInt8).toNat = 10 := rfl
        omega
      · rename_i h
        rcases List.mem_append.1 hy with h1 | h1
        · exact ih (v / 10) (by omega) y h1
        · rw [List.mem_singleton.1 h1]
          intro he
          have := congrArg UInt8.toNat he
          rw [digit_byte (Nat.mod_lt v (by omega))] at this
          have h10 : (10 : UInt8).toNat = 10 := rfl
          omega
  exact this _ y hy
theorem pcP_cue {num den : Int} (hs : suB num den = true) {c : Cu} (hv : vCu c = true) (hok : cueOk num den c = true) (i : Nat) (r : List UInt8) : pcP num den (cueT num den i c ++ r) = some (cAbs c, r) := by
  obtain ⟨_, n1, n2, d1, d2, h240⟩ := suB_out hs
  have hb := vCu_bounds hv
  unfold cueOk at hok
  simp only [Bool.and_eq_true, decide_eq_true_eq] at hok
  have m1 := (ms_bounds (n := c.f) (by omega) (by omega) hs).2.2.1
  have m2 := (ms_bounds (n := c.t) (by omega) (by omega) hs).2.2.1
  have t1 : ftS c.f num den = clkT (msQ c.f num den) := by unfold ftS; rw [if_pos hok.1, clkT_eq m1 hok.1]
  have t2 : ftS c.t num den = clkT (msQ c.t num den) := by unfold ftS; rw [if_pos hok.2, clkT_eq m2 hok.2]
  have k1 := clkT_no m1 hok.1
  have k2 := clkT_no m2 hok.2
  have p1 := ptP_clk (n := c.f) n1 d1 h240 m1 hok.1
  have p2 := ptP_clk (n := c.t) n1 d1 h240 m2 hok.2
  have e0 : cueT num den i c ++ r = itoa (i + 1) ++ 10 :: ((clkT (msQ c.f num den) ++ 32 :: ([45, 45, 62, 32] ++ clkT (msQ c.t num den))) ++ 10 :: (linT c.ss ++ 10 :: r)) := by
    unfold cueT
    rw [t1, t2]
    simp
  have e1 : cut (cueT num den i c ++ r) [10] = (itoa (i + 1), (clkT (msQ c.f num den) ++ 32 :: ([45, 45, 62, 32] ++ clkT (msQ c.t num den))) ++ 10 :: (linT c.ss ++ 10 :: r), true) := by
    rw [e0]; exact cut_nl _ _ (itoa_no i)
  have e2 : cut ((clkT (msQ c.f num den) ++ 32 :: ([45, 45, 62, 32] ++ clkT (msQ c.t num den))) ++ 10 :: (linT c.ss ++ 10 :: r)) [10] = (clkT (msQ c.f num den) ++ 32 :: ([45, 45, 62, 32] ++ clkT (msQ c.t num den)), linT c.ss ++ 10 :: r, true) := by
    refine cut_nl _ _ (fun y hy => ?_)
    simp only [List.mem_append, List.mem_cons] at hy
    rcases hy with h | h | h | h
    · exact (k1 y h).2
    · subst h; decide
    · intro he; subst he; revert h; decide
    · exact (k2 y h).2
  have e3 : cut (clkT (msQ c.f num den) ++ 32 :: ([45, 45, 62, 32] ++ clkT (msQ c.t num den))) arw = (clkT (msQ c.f num den), clkT (msQ c.t num den), true) := cut_at 32 [45, 45, 62, 32] _ _ (fun y hy => (k1 y hy).1)
  have e4 := plP_lin c.ss [] 6 r (fun s hs => List.all_eq_true.1 hb.2.2.2.2.2 s hs) (by simpa using hb.2.2.2.2.1) (by have := hb.2.2.2.2.1; omega)
  unfold pcP
  simp only [e1, e2, e3, p1, p2, e4]
  rw [if_neg (by simp)]
  unfold cAbs
  simp only [List.nil_append, List.map_map]
  congr 4
  refine (List.map_congr_left (g := id) fun s _ => ?_).trans (List.map_id _)
  exact ba_mk s
theorem paP_fmt {num den : Int} (hs : suB num den = true) : ∀ (cs : List Cu) (i f : Nat), vCues cs = true → fmtG num den cs = true → cs.length ≤ f → paP num den f (fmtT num den i cs) = some (cs.map cAbs)
  | [], i, 0, _, _, _ => rfl
  | [], i, f + 1, _, _, _ => rfl
  | c :: cs, i, 0, _, _, h => by simp at h
  | c :: cs, i, f + 1, hv, hg, hf => by
    have hv2 : (vCu c && vCues cs) = true := hv
    have hg2 : (cueOk num den c && fmtG num den cs) = true := hg
    rw [Bool.and_eq_true] at hv2 hg2
    have hne : fmtT num den i (c :: cs) ≠ [] := fun h => by
      have := congrArg List.length h
      unfold fmtT cueT at this
      simp at this
    rw [paP, if_neg hne]
    have := pcP_cue hs hv2.1 hg2.1 i (fmtT num den (i + 1) cs)
    rw [show fmtT num den i (c :: cs) = cueT num den i c ++ fmtT num den (i + 1) cs from rfl, this]
    simp only
    rw [paP_fmt hs cs (i + 1) f hv2.2 hg2.2 (by simpa using hf)]
    rfl
end Go.Proofs.YtckmebfgianeoaaDoor
