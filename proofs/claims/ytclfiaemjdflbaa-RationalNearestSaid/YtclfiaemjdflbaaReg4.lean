/-
  A law for regions that draw their order: the first operations read old memory or call functions that at most make new memory, and come up at any moment; the last operations, in one forced order, make and write new memory, with the first ones between them or not.
  Conditions: none.
-/
import Derived.Test.YtclfiaemjdflbaaReg3
namespace Go.Proofs.Ytclfiaemjdflbaa
open Go.RowKit
set_option linter.unusedVariables false

/-- nothing but a normal end -/
def only (K : Act → World → Prop) : Exit → Act → World → Prop
  | .normal, a, w => K a w
  | _, _, _ => False
theorem only_normal {K : Act → World → Prop} {a : Act} {w : World} (h : K a w) : only K .normal a w := h
theorem letsOut_only {K : Act → World → Prop} (h : LetsOut (only K)) : False := by
  obtain ⟨_, _, h⟩ := h
  exact h

section
variable {P : Program} {ops : Array Oper} {md : Region.Mode} {Q : Exit → Act → World → Prop}
theorem wp_only {K0 K K' : Act → World → Prop} {o : Oper} {a : Act} {w : World} (h : ∀ a w, K a w → K' a w) (hh : o.wp P a w K (only K0)) : o.wp P a w K' Q := by
  unfold Oper.wp at *
  generalize (execOp a.eval o).run P w = r at *
  cases r with
  | ok n w' =>
    cases n <;> simp only [Oper.upon] at hh ⊢
    case value u => exact h _ _ hh
    case skip => exact h _ _ hh
    case defer d => exact h _ _ hh
    case enter f args =>
      refine Calls.mono hh fun e w'' he => ?_
      cases e with
      | returned u => exact h _ _ he
      | panicked c => exact absurd he (fun x => x)
      | outgrown => exact absurd he letsOut_only
    case row row args => exact Rows.mono hh fun u w'' he => h _ _ he
  | halt x w' =>
    cases x <;> simp only [Oper.upon] at hh ⊢
    case panic u => exact absurd hh (fun x => x)
theorem wpOp_only {K0 K K' : Act → World → Prop} {i : Nat} {a : Act} {w : World} (h : ∀ a w, K a w → K' a w) (hh : wpOp P ops (only K0) i K a w) : wpOp P ops Q i K' a w := by
  unfold wpOp at *
  split
  · exact h _ _ (by simpa [*] using hh)
  · rename_i o ho
    simp only [ho] at hh
    split
    · rename_i hw
      simp only [hw, if_true] at hh
      rcases hh with hh | ⟨_, hl⟩
      · exact .inl (wp_only h hh)
      · exact (letsOut_only hl).elim
    · rename_i hw; simp only [hw] at hh; exact h _ _ hh

theorem YR.of_same {W : World} {o : Oper} {v : Value} {a a' : Act} (hy : YR P ops W o v a) (he : execOp a'.eval o = execOp a.eval o)
    (hw : Region.wanted o (yielded ops a'.tmps) = Region.wanted o (yielded ops a.tmps)) : YR P ops W o v a' := by
  unfold YR Oper.quietAt at *
  rw [he, hw]
  exact hy
theorem wpOp_putYR {W : World} {K0 : Act → World → Prop} {j : Nat} {oi oj : Oper} {v : Value} (hj : ops[j]? = some oj) (hap : oi.apart ops oj = true)
    (hsi : ∀ cs b, oi.op ≠ .select cs b) (hsj : ∀ cs b, oj.op ≠ .select cs b) {K : Act → World → Prop} {a : Act} {w : World}
    (hy : YR P ops W oi v a) (h : wpOp P ops (only K0) j K (a.put oi.dst v) w) :
    wpOp P ops (only K0) j (fun a' w' => YR P ops W oi v a' ∧ K (a'.put oi.dst v) w') a w := by
  obtain ⟨h1, h2, h3⟩ := Oper.apart_spec hap
  have keep : ∀ (a : Act), YR P ops W oi v a → ∀ u, YR P ops W oi v (a.put oj.dst u) := fun a hy u =>
    hy.of_same (execOp_put oi hsi a oj.dst u h3) (wanted_put oi a oj.dst u h3)
  have keepD : ∀ d, YR P ops W oi v { a with defers := d :: a.defers } := fun d => hy.of_same rfl rfl
  unfold wpOp at *
  simp only [hj] at *
  rw [wanted_put oj a oi.dst v h1] at h
  split
  · rename_i hw
    simp only [hw, if_true] at h
    rcases h with h | ⟨hasks, hlets⟩
    case inr => exact (letsOut_only hlets).elim
    refine .inl ?_
    unfold Oper.wp at *
    rw [execOp_put oj hsj a oi.dst v h1] at h
    generalize (execOp a.eval oj).run P w = r at *
    cases r with
    | ok n w' =>
      cases n <;> simp only [Oper.upon] at h ⊢
      case value u => exact ⟨keep a hy u, by rw [← Act.put_comm a v u h2]; exact h⟩
      case skip => exact ⟨keep a hy _, by rw [← Act.put_comm a v undef h2]; exact h⟩
      case defer d =>
        refine ⟨keep _ (keepD d) _, ?_⟩
        rw [← Act.put_comm _ v undef h2, ← Act.put_defers]
        exact h
      case enter f args =>
        refine Calls.mono h fun e w'' he => ?_
        cases e with
        | returned u => exact ⟨keep a hy u, by rw [← Act.put_comm a v u h2]; exact he⟩
        | panicked c => exact he
        | outgrown => exact he
      case row row args => exact Rows.mono h fun u w'' he => ⟨keep a hy u, by rw [← Act.put_comm a v u h2]; exact he⟩
    | halt x w' =>
      cases x <;> simp only [Oper.upon] at h ⊢
      case panic u => exact h
  · rename_i hw
    simp only [hw] at h
    exact ⟨keep a hy _, by rw [← Act.put_comm a v undef h2]; exact h⟩

/-- whatever order is picked from here on: the operations below n are quiet, the others are carried out in whatever world above the one at hand -/
def mixAny (P : Program) (md : Region.Mode) (ops : Array Oper) (Q : Exit → Act → World → Prop) (W : World) (n : Nat) : Nat → Array Bool → Act → World → Prop
  | 0, listed, a, w => Region.ready md ops listed = [] ∧ ∀ w', Gr w w' → Q .normal a w'
  | f + 1, listed, a, w => Region.ready md ops listed ≠ [] ∧ ∀ i ∈ Region.ready md ops listed,
      (i < n ∧ qOp P ops (fun w' => Gr w w') i (fun a' => mixAny P md ops Q W n f (listed.setIfInBounds i true) a' w) a) ∨
      (n ≤ i ∧ ∀ w', Gr w w' → wpOp P ops (only fun _ _ => True) i (fun a' w'' => Gr W w'' ∧ mixAny P md ops Q W n f (listed.setIfInBounds i true) a' w'') a w')
theorem mixAny_wp {W : World} {n : Nat} : ∀ (f : Nat) (listed : Array Bool) (a : Act) (w w' : World), Gr w w' → mixAny P md ops Q W n f listed a w → wpAny P md ops Q f listed a w'
  | 0, listed, a, w, w', hg, h => ⟨h.1, h.2 w' hg⟩
  | f + 1, listed, a, w, w', hg, h => by
    refine ⟨fun h0 => absurd h0 h.1, fun i hi => ?_⟩
    rcases h.2 i hi with ⟨_, h2⟩ | ⟨_, h2⟩
    · exact wpOp_of_qOp hg (fun a' w'' hw'' h' => mixAny_wp f _ a' w w'' hw'' h') h2
    · exact wpOp_only (fun a' w'' h' => mixAny_wp f _ a' w'' w'' (Gr.refl _) h'.2) (h2 w' hg)

theorem mixAny_first {W : World} {n i : Nat} {oi : Oper} {v : Value} (hi : ops[i]? = some oi) (hsel : ∀ (j : Nat) (o : Oper) cs b, ops[j]? = some o → o.op ≠ .select cs b) (hin : i < n) :
    ∀ (f : Nat) (listed : Array Bool) (a : Act) (w : World), Gr W w →
      (∀ j oj, ops[j]? = some oj → j ≠ i → listed.getD j true = false → (∀ e ∈ oj.after, Region.binds md e = true → e.on ≠ i) → oi.apart ops oj = true) →
      i ∈ Region.ready md ops listed → YR P ops W oi v a →
      mixAny P md ops Q W n f (listed.setIfInBounds i true) (a.put oi.dst v) w → mixAny P md ops Q W n (f + 1) listed a w := by
  intro f
  induction f with
  | zero =>
    intro listed a w hW hfree hr hy H
    refine ⟨fun h => (by rw [h] at hr; cases hr), fun j hj => ?_⟩
    by_cases hji : j = i
    · subst hji; exact .inl ⟨hin, (hy.yields hW).qOp hi H⟩
    · have := ready_mono hj hji
      rw [H.1] at this
      cases this
  | succ f ih =>
    intro listed a w hW hfree hr hy H
    refine ⟨fun h => (by rw [h] at hr; cases hr), fun j hj => ?_⟩
    by_cases hji : j = i
    · subst hji; exact .inl ⟨hin, (hy.yields hW).qOp hi H⟩
    · obtain ⟨hjun, oj, hoj, hall⟩ := mem_ready.1 hj
      have hnot : ∀ e ∈ oj.after, Region.binds md e = true → e.on ≠ i := fun e he hb heq => by
        have h1 := hall e he hb
        rw [heq, getD_both (mem_ready.1 hr).1] at h1
        cases h1
      have hap := hfree j oj hoj hji hjun hnot
      obtain ⟨k1, k2, k3⟩ := Oper.apart_spec hap
      have hfree' : ∀ k ok, ops[k]? = some ok → k ≠ i → (listed.setIfInBounds j true).getD k true = false →
          (∀ e ∈ ok.after, Region.binds md e = true → e.on ≠ i) → oi.apart ops ok = true := fun k ok hk hki hun' hno => by
        refine hfree k ok hk hki ?_ hno
        by_cases hjk : j = k
        · subst hjk; exact hjun
        · rw [getD_set_ne true hjk] at hun'; exact hun'
      rcases H.2 j (ready_mono hj hji) with ⟨h0, h1⟩ | ⟨h0, h1⟩
      · refine .inl ⟨h0, qOp_mono (fun a' h3 => ?_) (qOp_put2 hoj hap (fun cs b => hsel j oj cs b hoj) h1)⟩
        obtain ⟨⟨u, rfl⟩, h4⟩ := h3
        refine ih (listed.setIfInBounds j true) _ w hW hfree' (ready_mono hr (Ne.symm hji)) (hy.keep (fun cs b => hsel i oi cs b hi) k3) ?_
        rw [Array.setIfInBounds_comm _ _ hji]
        exact h4
      · refine .inr ⟨h0, fun w' hw' => ?_⟩
        have h2 := wpOp_putYR hoj hap (fun cs b => hsel i oi cs b hi) (fun cs b => hsel j oj cs b hoj) hy (h1 w' hw')
        refine wpOp_mono (fun a' w'' h3 => ⟨h3.2.1, ih (listed.setIfInBounds j true) a' w'' h3.2.1 hfree' (ready_mono hr (Ne.symm hji)) h3.1 ?_⟩) h2
        rw [Array.setIfInBounds_comm _ _ hji]
        exact h3.2.2

/-- the last operations, one after the other, each in whatever world above the one at hand -/
def loudRun (P : Program) (ops : Array Oper) (Q : Exit → Act → World → Prop) (W : World) : List Oper → Act → World → Prop
  | [], a, w => ∀ w', Gr w w' → Q .normal a w'
  | o :: l, a, w => ∀ w', Gr w w' → wpList P ops (only fun a' w'' => Gr W w'' ∧ loudRun P ops Q W l a' w'') [o] a w'
theorem loudRun_nil {W : World} {a : Act} {w : World} (h : ∀ w', Gr w w' → Q .normal a w') : loudRun P ops Q W [] a w := h
theorem loudRun_cons {W : World} {o : Oper} {l : List Oper} {a : Act} {w : World} (h : ∀ (R : Act → World → Prop), (∀ a' w'', Gr W w'' → loudRun P ops Q W l a' w'' → R a' w'') → ∀ w', Gr w w' → wpList P ops (only R) [o] a w') : loudRun P ops Q W (o :: l) a w :=
  fun w' hw' => h _ (fun _ _ h1 h2 => ⟨h1, h2⟩) w' hw'
theorem mix_of_seq {W : World} {n : Nat} : ∀ (l : List Oper) (k : Nat) (listed : Array Bool) (a : Act) (w : World), (∀ j, l[j]? = ops[k + j]?) → n ≤ k →
    Region.seqB md ops l.length k listed = true → loudRun P ops Q W l a w → mixAny P md ops Q W n l.length listed a w
  | [], _, _, _, _, _, _, hB, h => ⟨by simpa [Region.seqB] using hB, h⟩
  | o :: l, k, listed, a, w, hl, hk, hB, h => by
    have h0 : ops[k]? = some o := by simpa using (hl 0).symm
    simp only [List.length_cons, Region.seqB, Bool.and_eq_true, decide_eq_true_eq] at hB
    refine ⟨fun h1 => (by rw [hB.1] at h1; cases h1), fun i hi => ?_⟩
    rw [hB.1] at hi
    have hik : i = k := by simpa using hi
    subst hik
    refine .inr ⟨hk, fun w' hw' => ?_⟩
    have hw : wpOp P ops (only fun a' w'' => Gr W w'' ∧ loudRun P ops Q W l a' w'') i (wpList P ops (only fun a' w'' => Gr W w'' ∧ loudRun P ops Q W l a' w'') []) a w' := by
      unfold wpOp; simp only [h0]; exact h w' hw'
    exact wpOp_only (fun a' w'' h' => ⟨h'.1, mix_of_seq l (i + 1) _ a' w'' (fun j => by have := hl (j + 1); simpa [Nat.add_assoc, Nat.add_comm 1 j] using this) (by omega) hB.2 h'.2⟩) hw

theorem mix_lex {W W1 : World} {n g : Nat} (hW1 : Gr W W1) (hsel : Region.noSelect ops = true) :
    ∀ (l : List Oper) (k : Nat) (listed : Array Bool) (a : Act), (∀ j, j < l.length → l[j]? = ops[k + j]?) → k + l.length = n →
    Region.lexHead md ops g l.length k listed = true →
    wpQuietR P ops W (fun a' => ∀ listed', Region.seqB md ops g n listed' = true → mixAny P md ops Q W n g listed' a' W1) l a → mixAny P md ops Q W n (l.length + g) listed a W1
  | [], k, listed, a, _, hk, hB, h => by
    have : k = n := by simpa using hk
    subst this
    rw [List.length_nil, Nat.zero_add]
    exact h listed (by simpa [Region.lexHead] using hB)
  | o :: l, k, listed, a, hl, hk, hB, h => by
    have h0 : ops[k]? = some o := by simpa using (hl 0 (by simp)).symm
    simp only [List.length_cons, Region.lexHead, Bool.and_eq_true] at hB
    obtain ⟨⟨hr, hf⟩, hB'⟩ := hB
    have hkn : k < n := by simp only [List.length_cons] at hk; omega
    have hr' : k ∈ Region.ready md ops listed := by simpa using hr
    obtain ⟨v, hy, hK⟩ := h
    rw [show (o :: l).length + g = (l.length + g) + 1 by simp only [List.length_cons]; omega]
    exact mixAny_first h0 (Region.noSelect_spec hsel) hkn (l.length + g) listed a W1 hW1 (Region.free_spec h0 hf) hr' hy
      (mix_lex hW1 hsel l (k + 1) _ _ (fun j hj => by have := hl (j + 1) (by simp; omega); simpa [Nat.add_assoc, Nat.add_comm 1 j] using this) (by simp only [List.length_cons] at hk; omega) hB' hK)

def lexMixB (md : Region.Mode) (ops : Array Oper) (n : Nat) : Bool :=
  Region.noSelect ops && decide (n ≤ ops.size) && Region.lexHead md ops (ops.size - n) n 0 (Array.replicate ops.size false)

theorem wp_region_mix_on {id : Nat} {a : Act} {W1 : World} {l : List Oper} (n : Nat) (W : World) (hW1 : Gr W W1) (hm : P.follows .mixedOrders = true) (hB : lexMixB .any l.toArray n = true)
    (h : ∀ B, Gr W B → (∀ (x : GW B) (b o : Nat), b < W.heap.size → x.w.cell? ⟨b, o, none⟩ = W.cell? ⟨b, o, none⟩) → (∀ (x : GW B) (b o : Nat), b < W.heap.size → x.w.frozen? ⟨b, o, none⟩ = W.frozen? ⟨b, o, none⟩) →
      wpQuiet P l.toArray (fun w' => ∃ x : GW B, w' = x.w) (fun a' => loudRun P l.toArray Q W (l.drop n) a' W1) (l.take n) a) : (Code.region id l.toArray true).wp P Q a W1 := by
  simp only [lexMixB, Bool.and_eq_true, decide_eq_true_eq] at hB
  obtain ⟨⟨hsel, hn⟩, hlex⟩ := hB
  have hn' : n ≤ l.length := by simpa using hn
  have htl : (l.take n).length = n := by simp; omega
  have hdl : (l.drop n).length = l.toArray.size - n := by simp
  have hR := rel_of (P := P) (ops := l.toArray) (W := W) (l.take n) a (fun B hB => h B hB (fun x b o hb => (hB.trans x.h).cells.1 b o hb) (fun x b o hb => (hB.trans x.h).cells.2 b o hb))
  have hR2 := wpQuietR_mono (P := P) (ops := l.toArray) (W := W) _ (fun a' => ∀ listed', Region.seqB .any l.toArray (l.toArray.size - n) n listed' = true → mixAny P .any l.toArray Q W n (l.toArray.size - n) listed' a' W1) (fun a' h0 listed' hs => by
    have := mix_of_seq (P := P) (ops := l.toArray) (Q := Q) (W := W) (md := .any) (n := n) (l.drop n) n listed' a' W1 (fun j => by simp [List.getElem?_drop]) (Nat.le_refl n) (by rw [hdl]; exact hs) (h0 W (Gr.refl W))
    rwa [hdl] at this) _ _ hR
  have H := mix_lex (P := P) (ops := l.toArray) (Q := Q) (W := W) (W1 := W1) (md := .any) (n := n) (g := l.toArray.size - n) hW1 hsel (l.take n) 0 (Array.replicate l.toArray.size false) a (fun j hj => by
    have hj' : j < n := by rw [htl] at hj; exact hj
    simp [hj']) (by rw [htl]; omega) (by rw [htl]; exact hlex) hR2
  rw [htl, show n + (l.toArray.size - n) = l.toArray.size by simp; omega] at H
  exact wp_region_any hm (mixAny_wp _ _ _ _ { W1 with drawn := W1.drawn + 1 } ((Gr.refl W1).drew) H)
theorem wp_region_mix {id : Nat} {a : Act} {W : World} {l : List Oper} (n : Nat) (hm : P.follows .mixedOrders = true) (hB : lexMixB .any l.toArray n = true)
    (h : ∀ B, Gr W B → (∀ (x : GW B) (b o : Nat), b < W.heap.size → x.w.cell? ⟨b, o, none⟩ = W.cell? ⟨b, o, none⟩) → (∀ (x : GW B) (b o : Nat), b < W.heap.size → x.w.frozen? ⟨b, o, none⟩ = W.frozen? ⟨b, o, none⟩) →
      wpQuiet P l.toArray (fun w' => ∃ x : GW B, w' = x.w) (fun a' => loudRun P l.toArray Q W (l.drop n) a' W) (l.take n) a) : (Code.region id l.toArray true).wp P Q a W :=
  wp_region_mix_on n W (Gr.refl W) hm hB h
end
end Go.Proofs.Ytclfiaemjdflbaa
