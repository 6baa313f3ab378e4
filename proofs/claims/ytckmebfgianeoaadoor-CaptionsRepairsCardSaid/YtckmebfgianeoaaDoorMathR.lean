/-
  Plain law: what Repair makes of sorted captions; that it keeps the rules; that it leaves what keeps them.
  Conditions: none.
-/
import Derived.Test.YtckmebfgianeoaaDoorMathK
import Derived.Test.YtckmebfgianeoaaDoorMathS
import Derived.Test.YtckmebfgianeoaaDoorLawWraps
namespace Go.Proofs.YtckmebfgianeoaaDoor
set_option linter.unusedVariables false

/-- the rules -/
structure Ru where
  s : Int
  l : Int
  g : Int
  wd : Int
def ruB (r : Ru) : Bool := decide (1 ≤ r.s ∧ r.s ≤ r.l ∧ r.l ≤ 2147483647 ∧ 0 ≤ r.g ∧ r.g ≤ 2147483647 ∧ 1 ≤ r.wd ∧ r.wd ≤ 64)
def linesW (k : Int) (ss : List ByteArray) : List ByteArray := (ss.flatMap (wrapP k)).take 4
def repA (fr : Int) (c : AC) : Int := max c.1 fr
def repB (r : Ru) (e fr : Int) (c : AC) : Int := min (min (max c.2.1 (repA fr c + r.s)) (repA fr c + r.l)) e
/-- a caption more: none, or the caption that is handed back -/
def repOne (r : Ru) (e fr : Int) (c : AC) : Option AC :=
  if c.2.1 ≤ repA fr c then none
  else if repB r e fr c - repA fr c < r.s then none
  else if linesW r.wd c.2.2 = [] then none
  else some (repA fr c, repB r e fr c, linesW r.wd c.2.2)
def repGo (r : Ru) (e : Int) : Int → List AC → List AC
  | _, [] => []
  | fr, c :: l => match repOne r e fr c with
    | none => repGo r e fr l
    | some d => d :: repGo r e (d.2.1 + r.g) l
theorem repGo_none {r : Ru} {e fr : Int} {c : AC} {l : List AC} (h : repOne r e fr c = none) : repGo r e fr (c :: l) = repGo r e fr l := by rw [repGo, h]
theorem repGo_some {r : Ru} {e fr : Int} {c d : AC} {l : List AC} (h : repOne r e fr c = some d) : repGo r e fr (c :: l) = d :: repGo r e (d.2.1 + r.g) l := by rw [repGo, h]

/-- a caption that keeps the rules -/
structure OkR (r : Ru) (e : Int) (d : AC) : Prop where
  v : vA d = true
  s : r.s ≤ d.2.1 - d.1
  l : d.2.1 - d.1 ≤ r.l
  e : d.2.1 ≤ e
  w : ∀ x ∈ d.2.2, (x.size : Int) ≤ r.wd
def gapF (g : Int) : Int → List AC → Prop
  | _, [] => True
  | fr, d :: l => fr ≤ d.1 ∧ gapF g (d.2.1 + g) l

theorem wrapP_one {k : Int} {x : ByteArray} (h1 : 1 ≤ k) (h2 : (x.size : Int) ≤ k) : wrapP k x = [x] := by
  unfold wrapP
  rw [if_neg (by omega), if_pos h2]
theorem wrapP_len2 (k : Int) (s : ByteArray) : (wrapP k s).length ≤ 2 * s.size + 1 := by
  unfold wrapP
  split
  · simp
  · split
    · simp
    · unfold wrapM
      have h1 := foldl_len k.toNat (by omega) (wordsG [] s.data.toList) [] [] (wordsG_ne _ _)
      have h2 := wordsG_sum [] s.data.toList
      have h3 := endL_len ((wordsG [] s.data.toList).foldl (addW k.toNat) ([], [])).1 ((wordsG [] s.data.toList).foldl (addW k.toNat) ([], [])).2
      rw [ba_len] at h2
      simp only [List.length_nil] at h1 h2
      simp only
      omega
theorem linesW_same {k : Int} {ss : List ByteArray} (h1 : 1 ≤ k) (h2 : ∀ x ∈ ss, (x.size : Int) ≤ k) (h4 : ss.length ≤ 4) : linesW k ss = ss := by
  have : ∀ l : List ByteArray, (∀ x ∈ l, (x.size : Int) ≤ k) → l.flatMap (wrapP k) = l := by
    intro l
    induction l with
    | nil => intro _; rfl
    | cons x l ih =>
      intro h
      rw [List.flatMap_cons, wrapP_one h1 (h x (List.mem_cons_self ..)), ih (fun y hy => h y (List.mem_cons_of_mem _ hy))]
      rfl
  unfold linesW
  rw [this ss h2, List.take_of_length_le h4]
theorem vA_all {d : AC} (h : vA d = true) : 0 ≤ d.1 ∧ d.1 < d.2.1 ∧ d.2.1 ≤ 2147483647 ∧ 1 ≤ d.2.2.length ∧ d.2.2.length ≤ 4 ∧ ∀ x ∈ d.2.2, vLine x = true := by
  unfold vA vCue at h
  simp only [Bool.and_eq_true, decide_eq_true_eq] at h
  exact ⟨h.1.1, h.1.2.1, h.1.2.2.1, h.1.2.2.2.1, h.1.2.2.2.2, fun x hx => List.all_eq_true.1 h.2 x hx⟩
theorem repOne_same {r : Ru} {e fr : Int} {d : AC} (hr : ruB r = true) (h : OkR r e d) (hf : fr ≤ d.1) : repOne r e fr d = some d := by
  have hb := vA_all h.v
  unfold ruB at hr
  rw [decide_eq_true_eq] at hr
  have ha : repA fr d = d.1 := by unfold repA; omega
  have hs := h.s
  have hl := h.l
  have he := h.e
  have hB : repB r e fr d = d.2.1 := by unfold repB; rw [ha]; omega
  have hL : linesW r.wd d.2.2 = d.2.2 := linesW_same hr.2.2.2.2.2.1 h.w hb.2.2.2.2.1
  have hn : d.2.2 ≠ [] := fun e => by have := hb.2.2.2.1; rw [e] at this; simp at this
  unfold repOne
  rw [ha, hB, hL, if_neg (by omega), if_neg (by omega), if_neg hn]
theorem repGo_same {r : Ru} {e : Int} (hr : ruB r = true) : ∀ {o : List AC} {fr : Int}, (∀ d ∈ o, OkR r e d) → gapF r.g fr o → repGo r e fr o = o
  | [], _, _, _ => rfl
  | d :: l, fr, h, hg => by
    rw [repGo_some (repOne_same hr (h d (List.mem_cons_self ..)) hg.1), repGo_same hr (fun x hx => h x (List.mem_cons_of_mem _ hx)) hg.2]

/-! ### the bytes of wrapped lines -/
theorem words_byte : ∀ (c l : List UInt8), ∀ w ∈ wordsG c l, ∀ x ∈ w, x ∈ c ∨ x ∈ l
  | c, [], w, h, x, hx => by
    rw [wordsG] at h
    split at h
    · cases h
    · rw [List.mem_singleton.1 h] at hx; exact .inl hx
  | c, y :: r, w, h, x, hx => by
    rw [wordsG] at h
    split at h
    · split at h
      · rcases words_byte [] r w h x hx with h1 | h1
        · cases h1
        · exact .inr (List.mem_cons_of_mem _ h1)
      · rcases List.mem_cons.1 h with rfl | h
        · exact .inl hx
        · rcases words_byte [] r w h x hx with h1 | h1
          · cases h1
          · exact .inr (List.mem_cons_of_mem _ h1)
    · rcases words_byte (c ++ [y]) r w h x hx with h1 | h1
      · rcases List.mem_append.1 h1 with h2 | h2
        · exact .inl h2
        · rw [List.mem_singleton.1 h2]; exact .inr (List.mem_cons_self ..)
      · exact .inr (List.mem_cons_of_mem _ h1)
theorem endL_all (ls : List ByteArray) (cur : List UInt8) : allB (endL ls cur) = allB ls ++ cur := by
  unfold endL
  split
  · rename_i e; rw [e]; simp
  · rw [allB_append]; simp [allB]
theorem chop_all (k : Nat) : ∀ (f : Nat) (w : List UInt8), allB (chop k f w).1 ++ (chop k f w).2 = w
  | 0, w => rfl
  | f + 1, w => by
    by_cases c : k < w.length
    · rw [chop_step _ _ _ c]
      show allB ((⟨(w.take k).toArray⟩ : ByteArray) :: _) ++ _ = w
      rw [show allB ((⟨(w.take k).toArray⟩ : ByteArray) :: (chop k f (w.drop k)).1) = w.take k ++ allB (chop k f (w.drop k)).1 by simp [allB], List.append_assoc, chop_all k f, List.take_append_drop]
    · rw [chop_done _ _ _ c]; rfl
theorem addW_byte (k : Nat) (ls : List ByteArray) (cur w : List UInt8) : ∀ x ∈ allB (addW k (ls, cur) w).1 ++ (addW k (ls, cur) w).2, x ∈ allB ls ++ cur ∨ x ∈ w ∨ x = 32 := by
  intro x hx
  unfold addW at hx
  split at hx
  · have hx : x ∈ allB ls ++ (cur ++ 32 :: w) := hx
    simp only [List.mem_append, List.mem_cons] at hx ⊢
    rcases hx with h | h | h | h
    · exact .inl (.inl h)
    · exact .inl (.inr h)
    · exact .inr (.inr h)
    · exact .inr (.inl h)
  · have hx : x ∈ allB (endL ls cur ++ (chop k w.length w).1) ++ (chop k w.length w).2 := hx
    rw [allB_append, List.append_assoc, chop_all, endL_all] at hx
    rcases List.mem_append.1 hx with h | h
    · exact .inl h
    · exact .inr (.inl h)
theorem foldl_byte (k : Nat) : ∀ (ws : List (List UInt8)) (ls : List ByteArray) (cur : List UInt8), ∀ x ∈ allB (ws.foldl (addW k) (ls, cur)).1 ++ (ws.foldl (addW k) (ls, cur)).2, x ∈ allB ls ++ cur ∨ (∃ w ∈ ws, x ∈ w) ∨ x = 32
  | [], ls, cur, x, hx => .inl hx
  | w :: ws, ls, cur, x, hx => by
    rw [List.foldl_cons] at hx
    have := foldl_byte k ws (addW k (ls, cur) w).1 (addW k (ls, cur) w).2 x hx
    rcases this with h | ⟨v, hv, h⟩ | h
    · rcases addW_byte k ls cur w x h with h | h | h
      · exact .inl h
      · exact .inr (.inl ⟨w, List.mem_cons_self .., h⟩)
      · exact .inr (.inr h)
    · exact .inr (.inl ⟨v, List.mem_cons_of_mem _ hv, h⟩)
    · exact .inr (.inr h)
theorem wrapM_byte (k : Nat) (l : List UInt8) : ∀ x ∈ allB (wrapM k l), x ∈ l ∨ x = 32 := by
  intro x hx
  unfold wrapM at hx
  simp only [endL_all] at hx
  rcases foldl_byte k (wordsG [] l) [] [] x hx with h | ⟨w, hw, h⟩ | h
  · simp [allB] at h
  · rcases words_byte [] l w hw x h with h | h
    · cases h
    · exact .inl h
  · exact .inr h
theorem vLine_out {s : ByteArray} (h : vLine s = true) : 1 ≤ s.size ∧ s.size ≤ 64 ∧ ∀ x ∈ s.data.toList, okB x = true := by
  unfold vLine at h
  simp only [Bool.and_eq_true, decide_eq_true_eq] at h
  exact ⟨h.1.1, h.1.2, fun x hx => List.all_eq_true.1 h.2 x hx⟩
theorem vLine_in {s : ByteArray} (h1 : 1 ≤ s.size) (h2 : s.size ≤ 64) (h3 : ∀ x ∈ s.data.toList, okB x = true) : vLine s = true := by
  unfold vLine
  simp only [Bool.and_eq_true, decide_eq_true_eq]
  exact ⟨⟨h1, h2⟩, List.all_eq_true.2 h3⟩
/-- lines of a valid line are valid and at most k long -/
theorem wrapP_valid {k : Int} (h1 : 1 ≤ k) (h2 : k ≤ 64) {s : ByteArray} (hs : vLine s = true) : ∀ x ∈ wrapP k s, vLine x = true ∧ (x.size : Int) ≤ k := by
  intro x hx
  unfold wrapP at hx
  rw [if_neg (by omega)] at hx
  split at hx
  · rename_i h
    rw [List.mem_singleton.1 hx]
    exact ⟨hs, h⟩
  · have hk := (wrapM_keeps (k := k.toNat) (by omega) s.data.toList).2 x hx
    unfold okLine at hk
    refine ⟨vLine_in hk.1 (by omega) (fun y hy => ?_), by omega⟩
    have hy2 : y ∈ allB (wrapM k.toNat s.data.toList) := by
      unfold allB
      exact List.mem_flatMap.2 ⟨x, hx, hy⟩
    rcases wrapM_byte _ _ y hy2 with h | h
    · exact (vLine_out hs).2.2 y h
    · rw [h]; decide
theorem linesW_valid {k : Int} (h1 : 1 ≤ k) (h2 : k ≤ 64) {ss : List ByteArray} (hs : ∀ x ∈ ss, vLine x = true) : (linesW k ss).length ≤ 4 ∧ ∀ x ∈ linesW k ss, vLine x = true ∧ (x.size : Int) ≤ k := by
  unfold linesW
  refine ⟨by rw [List.length_take]; omega, fun x hx => ?_⟩
  obtain ⟨s, h3, h4⟩ := List.mem_flatMap.1 (List.mem_of_mem_take hx)
  exact wrapP_valid h1 h2 (hs s h3) x h4
theorem repOne_ok {r : Ru} {e fr : Int} {c d : AC} (hr : ruB r = true) (he : e ≤ 2147483647) (hf : 0 ≤ fr) (hv : vA c = true) (h : repOne r e fr c = some d) : OkR r e d ∧ fr ≤ d.1 := by
  have hb := vA_all hv
  unfold ruB at hr
  rw [decide_eq_true_eq] at hr
  unfold repOne at h
  split at h
  · cases h
  split at h
  · cases h
  split at h
  · cases h
  rename_i g1 g2 g3
  injection h with h
  subst h
  have hl := linesW_valid hr.2.2.2.2.2.1 hr.2.2.2.2.2.2 hb.2.2.2.2.2
  have hB : repB r e fr c ≤ e := by unfold repB; omega
  have hB2 : repB r e fr c ≤ repA fr c + r.l := by unfold repB; omega
  have hA : fr ≤ repA fr c ∧ 0 ≤ repA fr c := by unfold repA; omega
  refine ⟨⟨?_, by simp only; omega, by simp only; omega, hB, fun x hx => (hl.2 x hx).2⟩, hA.1⟩
  unfold vA vCue
  simp only [Bool.and_eq_true, decide_eq_true_eq]
  refine ⟨⟨hA.2, by omega, by omega, ?_, hl.1⟩, List.all_eq_true.2 (fun x hx => (hl.2 x hx).1)⟩
  have : (linesW r.wd c.2.2).length ≠ 0 := fun e => g3 (List.eq_nil_of_length_eq_zero e)
  omega
theorem repGo_ok {r : Ru} {e : Int} (hr : ruB r = true) (he : e ≤ 2147483647) : ∀ {l : List AC} {fr : Int}, (∀ c ∈ l, vA c = true) → 0 ≤ fr → (∀ d ∈ repGo r e fr l, OkR r e d) ∧ gapF r.g fr (repGo r e fr l)
  | [], _, _, _ => ⟨fun d hd => (by cases hd), trivial⟩
  | c :: l, fr, h, hf => by
    cases ho : repOne r e fr c with
    | none =>
      rw [repGo_none ho]
      exact repGo_ok hr he (fun x hx => h x (List.mem_cons_of_mem _ hx)) hf
    | some d =>
      rw [repGo_some ho]
      have hd := repOne_ok hr he hf (h c (List.mem_cons_self ..)) ho
      have hb := vA_all hd.1.v
      have hg : 0 ≤ r.g := by unfold ruB at hr; rw [decide_eq_true_eq] at hr; exact hr.2.2.2.1
      have ih := repGo_ok hr he (l := l) (fr := d.2.1 + r.g) (fun x hx => h x (List.mem_cons_of_mem _ hx)) (by omega)
      refine ⟨fun x hx => ?_, hd.2, ih.2⟩
      rcases List.mem_cons.1 hx with rfl | hx
      · exact hd.1
      · exact ih.1 x hx
theorem gapF_ord {g : Int} (hg : 0 ≤ g) : ∀ {o : List AC} {fr : Int}, gapF g fr o → ordA o = true
  | [], _, _ => rfl
  | [_], _, _ => rfl
  | c :: d :: l, fr, h => by
    show (decide (c.2.1 ≤ d.1) && ordA (d :: l)) = true
    have h2 := h.2
    rw [gapF_ord hg h2, decide_eq_true (by have := h2.1; omega : c.2.1 ≤ d.1)]
    rfl
theorem ord_gapF : ∀ {o : List AC} {fr : Int}, ordA o = true → (∀ c, o.head? = some c → fr ≤ c.1) → gapF 0 fr o
  | [], _, _, _ => trivial
  | c :: l, fr, h, hf => by
    refine ⟨hf c rfl, ?_⟩
    rw [Int.add_zero]
    refine ord_gapF (ord_tail h) (fun d hd => ?_)
    cases l with
    | nil => cases hd
    | cons d' l =>
      have h : (decide (c.2.1 ≤ d'.1) && ordA (d' :: l)) = true := h
      rw [Bool.and_eq_true, decide_eq_true_eq] at h
      injection hd with hd
      subst hd
      exact h.1
end Go.Proofs.YtckmebfgianeoaaDoor
