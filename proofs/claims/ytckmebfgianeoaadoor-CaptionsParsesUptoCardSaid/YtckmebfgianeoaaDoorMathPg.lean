/-
  Plain law: the lines of a formatted text; what the reference's Parse has read of it.
  Conditions: none.
-/
import Derived.Test.YtckmebfgianeoaaDoorWalkLn
import Derived.Test.YtckmebfgianeoaaDoorWalkFq
import Derived.Test.YtckmebfgianeoaaDoorMathPb
import Derived.Test.YtckmebfgianeoaaDoorWalkPs
namespace Go.Proofs.YtckmebfgianeoaaDoor
open Go.RowKit Go.Lib
set_option linter.unusedVariables false

theorem lnsG_line (l : List UInt8) : ∀ (c r : List UInt8), (∀ y ∈ l, y ≠ 10) → lnsG c (l ++ 10 :: r) = ((c ++ l) :: (lnsG [] r).1, (lnsG [] r).2) := by
  induction l with
  | nil => intro c r _; rw [List.nil_append, lnsG, if_pos rfl, List.append_nil]
  | cons x l ih =>
    intro c r h
    rw [List.cons_append, lnsG, if_neg (h x (List.mem_cons_self ..)), ih (c ++ [x]) r (fun y hy => h y (List.mem_cons_of_mem _ hy))]
    simp
theorem lnsG_len : ∀ (l c : List UInt8), (lnsG c l).1.length ≤ l.length
  | [], c => Nat.zero_le _
  | x :: l, c => by
    rw [lnsG]
    split
    · have := lnsG_len l []; simp only [List.length_cons]; omega
    · have := lnsG_len l (c ++ [x]); simp only [List.length_cons]; omega
theorem lnsG_el : ∀ (l c : List UInt8), ∀ y ∈ (lnsG c l).1, y.length ≤ c.length + l.length
  | [], c => fun y hy => by cases hy
  | x :: l, c => fun y hy => by
    rw [lnsG] at hy
    split at hy
    · rcases List.mem_cons.1 hy with h | h
      · rw [h]; omega
      · have := lnsG_el l [] y h; simp only [List.length_cons, List.length_nil] at *; omega
    · have := lnsG_el l (c ++ [x]) y hy; simp only [List.length_append, List.length_cons, List.length_nil] at *; omega
/-- the line of a caption's times -/
def timL (num den : Int) (c : Cu) : List UInt8 := clkT (msQ c.f num den) ++ 32 :: 45 :: 45 :: 62 :: 32 :: clkT (msQ c.t num den)
theorem timL_len (num den : Int) (c : Cu) : (timL num den c).length = 29 := by unfold timL; simp [clkT_len]
def cueL (num den : Int) (i : Nat) (c : Cu) : List (List UInt8) := itoa (i + 1) :: timL num den c :: (c.ss.map (fun s => s.data.toList) ++ [[]])
def flL (num den : Int) : Nat → List Cu → List (List UInt8)
  | _, [] => []
  | i, c :: r => cueL num den i c ++ flL num den (i + 1) r
theorem lns_lin : ∀ (ss : List ByteArray) (r : List UInt8), (∀ s ∈ ss, vLine s = true) → lnsG [] (linT ss ++ 10 :: r) = (ss.map (fun s => s.data.toList) ++ [] :: (lnsG [] r).1, (lnsG [] r).2)
  | [], r, _ => by rw [show linT [] ++ 10 :: r = [] ++ 10 :: r from rfl, lnsG_line [] [] r (fun y hy => by cases hy)]; rfl
  | s :: ss, r, hv => by
    have hs := hv s (List.mem_cons_self ..)
    unfold vLine at hs
    simp only [Bool.and_eq_true, decide_eq_true_eq] at hs
    have hb := List.all_eq_true.1 hs.2
    have hno : ∀ y ∈ s.data.toList, y ≠ 10 := fun y hy he => by
      have := hb y hy
      subst he
      revert this; decide
    have e : linT (s :: ss) ++ 10 :: r = s.data.toList ++ 10 :: (linT ss ++ 10 :: r) := by unfold linT; simp
    rw [e, lnsG_line _ _ _ hno, lns_lin ss r (fun x hx => hv x (List.mem_cons_of_mem _ hx))]
    simp
theorem lns_cue {num den : Int} (hs : suB num den = true) {c : Cu} (hv : vCu c = true) (hok : cueOk num den c = true) (i : Nat) (r : List UInt8) : lnsG [] (cueT num den i c ++ r) = (cueL num den i c ++ (lnsG [] r).1, (lnsG [] r).2) := by
  have hb := vCu_bounds hv
  unfold cueOk at hok
  simp only [Bool.and_eq_true, decide_eq_true_eq] at hok
  have m1 := (ms_bounds (n := c.f) (by omega) (by omega) hs).2.2.1
  have m2 := (ms_bounds (n := c.t) (by omega) (by omega) hs).2.2.1
  have t1 : ftS c.f num den = clkT (msQ c.f num den) := by unfold ftS; rw [if_pos hok.1, clkT_eq m1 hok.1]
  have t2 : ftS c.t num den = clkT (msQ c.t num den) := by unfold ftS; rw [if_pos hok.2, clkT_eq m2 hok.2]
  have k1 := clkT_no m1 hok.1
  have k2 := clkT_no m2 hok.2
  have e0 : cueT num den i c ++ r = itoa (i + 1) ++ 10 :: (timL num den c ++ 10 :: (linT c.ss ++ 10 :: r)) := by
    unfold cueT timL
    rw [t1, t2]
    simp
  have hn : ∀ y ∈ timL num den c, y ≠ 10 := by
    intro y hy
    unfold timL at hy
    simp only [List.mem_append, List.mem_cons] at hy
    rcases hy with h | h | h | h | h | h | h
    · exact (k1 y h).2
    · subst h; decide
    · subst h; decide
    · subst h; decide
    · subst h; decide
    · subst h; decide
    · exact (k2 y h).2
  rw [e0, lnsG_line _ _ _ (itoa_no i), lnsG_line _ _ _ hn, lns_lin _ _ (fun s h => List.all_eq_true.1 hb.2.2.2.2.2 s h)]
  unfold cueL
  simp
theorem lns_fmt {num den : Int} (hs : suB num den = true) : ∀ (X : List Cu) (i : Nat), vCues X = true → fmtG num den X = true → lnsG [] (fmtT num den i X) = (flL num den i X, [])
  | [], i, _, _ => rfl
  | c :: X, i, hv, hg => by
    have b1 : (vCu c && vCues X) = true := hv
    have b2 : (cueOk num den c && fmtG num den X) = true := hg
    rw [Bool.and_eq_true] at b1 b2
    rw [fmtT, lns_cue hs b1.1 b2.1, lns_fmt hs X (i + 1) b1.2 b2.2]
    rfl
/-- the lines still to be read, for every list whose Format the text is -/
def JL (num den : Int) (S : List UInt8) (rest : List ByteArray) (cs : List Cu) : Prop :=
  ∀ X, IsF num den S X → cs.length ≤ X.length ∧ cs.map cAbs = (X.take cs.length).map cAbs ∧ rest.map (fun s => s.data.toList) = flL num den cs.length (X.drop cs.length)
theorem JL.start {num den : Int} (hs : suB num den = true) (S : List UInt8) : JL num den S ((lnsG [] S).1.map toBa) [] := by
  intro X h
  refine ⟨Nat.zero_le _, rfl, ?_⟩
  have := lns_fmt hs X 0 h.1 h.2.1
  rw [h.2.2] at this
  rw [this]
  show _ = flL num den 0 X
  rw [List.map_map]
  exact (List.map_congr_left (g := id) (fun s _ => by show (toBa s).data.toList = s; unfold toBa; simp)).trans (List.map_id _)
theorem JL.rest {num den : Int} (hs : suB num den = true) {S : List UInt8} (h : (lnsG [] S).2 ≠ []) : ∀ X, ¬ IsF num den S X := by
  intro X hX
  have := lns_fmt hs X 0 hX.1 hX.2.1
  rw [hX.2.2] at this
  rw [this] at h
  exact h rfl
/-- the head of the lines still to be read -/
theorem JL.head {num den : Int} (hs : suB num den = true) {S : List UInt8} {rest : List ByteArray} {cs : List Cu} (h : JL num den S rest cs) (hr : rest ≠ []) (X : List Cu) (hX : IsF num den S X) :
    ∃ (c : Cu) (p t : ByteArray) (r : List ByteArray), X[cs.length]? = some c ∧ rest = p :: t :: (c.ss ++ ⟨#[]⟩ :: r) ∧ t.data.toList = timL num den c ∧ r.map (fun s => s.data.toList) = flL num den (cs.length + 1) (X.drop (cs.length + 1)) ∧
      Hit num den (clkT (msQ c.f num den)) c.f ∧ Hit num den (clkT (msQ c.t num den)) c.t ∧ (∀ s ∈ c.ss, s.size ≠ 0) := by
  obtain ⟨h1, h2, h3⟩ := h X hX
  have hk : cs.length < X.length := by
    refine Nat.lt_of_le_of_ne h1 (fun e => hr ?_)
    rw [List.drop_of_length_le (by omega), flL] at h3
    exact List.map_eq_nil_iff.1 h3
  have hm : X[cs.length] ∈ X := List.getElem_mem hk
  have hv := vCues_mem hX.1 hm
  have hb := vCu_bounds hv
  have hok : cueOk num den X[cs.length] = true := List.all_eq_true.1 hX.2.1 _ hm
  unfold cueOk at hok
  simp only [Bool.and_eq_true, decide_eq_true_eq] at hok
  rw [List.drop_eq_getElem_cons hk, flL] at h3
  unfold cueL at h3
  have hx : X[cs.length]? = some X[cs.length] := List.getElem?_eq_getElem hk
  generalize X[cs.length] = c at hm hv hb hok h3 hx
  cases rest with
  | nil => exact absurd rfl hr
  | cons p rest =>
    cases rest with
    | nil => simp at h3
    | cons t rest =>
      simp only [List.map_cons, List.cons_append, List.cons.injEq] at h3
      obtain ⟨e1, e2, e3⟩ := h3
      rw [List.append_assoc] at e3
      obtain ⟨r1, r2, rfl, f1, f2⟩ := List.map_eq_append_iff.1 e3
      obtain ⟨z, r3, rfl, f3, f4⟩ := List.map_eq_cons_iff.1 f2
      have hss : r1 = c.ss := by
        have hinj : ∀ (x y : List ByteArray), x.map (fun s => s.data.toList) = y.map (fun s => s.data.toList) → x = y := by
          intro x
          induction x with
          | nil => intro y h; cases y with
            | nil => rfl
            | cons => simp at h
          | cons a x ih => intro y h; cases y with
            | nil => simp at h
            | cons b y =>
              simp only [List.map_cons, List.cons.injEq] at h
              rw [ba_ext h.1, ih y h.2]
        exact hinj _ _ f1
      have hz : z = ⟨#[]⟩ := ba_ext (by rw [f3])
      subst hss hz
      refine ⟨c, p, t, r3, hx, rfl, e2, f4, ⟨by omega, by omega, hok.1, rfl⟩, ⟨by omega, by omega, hok.2, rfl⟩, fun s hs => ?_⟩
      have := (vLine_size (List.all_eq_true.1 hb.2.2.2.2.2 s hs)).1
      omega
theorem tim_parts (num den : Int) (c : Cu) (t : ByteArray) (h : t.data.toList = timL num den c) : (t.extract 0 12).data.toList = clkT (msQ c.f num den) ∧ (t.extract 17 29).data.toList = clkT (msQ c.t num den) := by
  rw [← toBa_ex t 0 12, ← toBa_ex t 17 29, h]
  unfold toBa timL
  have h1 := clkT_len (msQ c.f num den)
  have h2 := clkT_len (msQ c.t num den)
  generalize clkT (msQ c.f num den) = A at *
  generalize clkT (msQ c.t num den) = B at *
  constructor
  · simp [h1]
  · have e : A ++ 32 :: 45 :: 45 :: 62 :: 32 :: B = (A ++ [32, 45, 45, 62, 32]) ++ B := by simp
    show List.drop 17 (List.take 29 _) = B
    rw [e, List.take_of_length_le (by simp [h1, h2]), List.drop_append_of_le_length (by simp [h1]), List.drop_of_length_le (by simp [h1])]
    rfl
theorem JL.times {num den : Int} (hs : suB num den = true) {S : List UInt8} {p0 t : ByteArray} {rest : List ByteArray} {cs : List Cu} (h : JL num den S (p0 :: t :: rest) cs) {n1 n2 : Int} {k1 k2 : Bool}
    (H1 : ∀ n0, Hit num den (t.extract 0 12).data.toList n0 → n1 = n0 ∧ k1 = true) (H2 : ∀ n0, Hit num den (t.extract 17 29).data.toList n0 → n2 = n0 ∧ k2 = true) (X : List Cu) (hX : IsF num den S X) :
    ∃ (c : Cu) (r : List ByteArray), X[cs.length]? = some c ∧ rest = c.ss ++ ⟨#[]⟩ :: r ∧ r.map (fun s => s.data.toList) = flL num den (cs.length + 1) (X.drop (cs.length + 1)) ∧ (n1 = c.f ∧ k1 = true) ∧ (n2 = c.t ∧ k2 = true) ∧ (∀ s ∈ c.ss, s.size ≠ 0) := by
  obtain ⟨c, p, t', r, hx, e, et, er, hh1, hh2, hz⟩ := h.head hs (by simp) X hX
  injection e with e1 e2
  injection e2 with e2 e3
  subst e2
  obtain ⟨a, b⟩ := tim_parts num den c t et
  exact ⟨c, r, hx, e3, er, H1 _ (by rw [a]; exact hh1), H2 _ (by rw [b]; exact hh2), hz⟩
theorem JL.step {num den : Int} (hs : suB num den = true) {S : List UInt8} {p0 t : ByteArray} {rest : List ByteArray} {cs : List Cu} (h : JL num den S (p0 :: t :: rest) cs) {n1 n2 : Int} {k1 k2 : Bool}
    (H1 : ∀ n0, Hit num den (t.extract 0 12).data.toList n0 → n1 = n0 ∧ k1 = true) (H2 : ∀ n0, Hit num den (t.extract 17 29).data.toList n0 → n2 = n0 ∧ k2 = true) (m : Nat) (lv : Value)
    (hall : ∀ x ∈ rest.take m, x.size ≠ 0) (hstop : ∀ x, rest[m]? = some x → x.size = 0) (hm : m ≤ rest.length) : JL num den S (rest.drop (m + 1)) (cs ++ [⟨n1, n2, lv, rest.take m⟩]) := by
  intro X hX
  obtain ⟨c, r, hx, e, er, hn1, hn2, hz⟩ := h.times hs H1 H2 X hX
  obtain ⟨hk, hxe⟩ := List.getElem?_eq_some_iff.1 hx
  obtain ⟨q1, q2, q3⟩ := h X hX
  have hmc : m = c.ss.length := by
    rcases Nat.lt_trichotomy m c.ss.length with g | g | g
    · exact absurd (hstop c.ss[m] (by rw [e, List.getElem?_append_left g]; exact List.getElem?_eq_getElem g)) (hz _ (List.getElem_mem g))
    · exact g
    · have hmem : (⟨#[]⟩ : ByteArray) ∈ rest.take m := by
        rw [e, List.take_append, List.mem_append]
        right
        rw [show m - c.ss.length = (m - c.ss.length - 1) + 1 by omega, List.take_succ_cons]
        exact List.mem_cons_self ..
      exact absurd rfl (hall _ hmem)
  subst hmc
  have h1 : rest.take c.ss.length = c.ss := by rw [e, List.take_left]
  have h2 : rest.drop (c.ss.length + 1) = r := by rw [e, List.drop_append]; simp
  refine ⟨by rw [List.length_append]; exact hk, ?_, by rw [List.length_append, h2]; exact er⟩
  rw [List.length_append, List.length_singleton, ← List.take_append_getElem hk, List.map_append, List.map_append, q2, hxe, h1]
  unfold cAbs
  simp [hn1.1, hn2.1]
theorem JL.done {num den : Int} {S : List UInt8} {cs : List Cu} (h : JL num den S [] cs) (X : List Cu) (hX : IsF num den S X) : cs.map cAbs = X.map cAbs := by
  obtain ⟨h1, h2, h3⟩ := h X hX
  have hk : cs.length = X.length := by
    rcases Nat.lt_or_ge cs.length X.length with hk | hk
    · rw [List.drop_eq_getElem_cons hk, flL] at h3
      unfold cueL at h3
      simp at h3
    · omega
  rw [h2, hk, List.take_length]
end Go.Proofs.YtckmebfgianeoaaDoor
