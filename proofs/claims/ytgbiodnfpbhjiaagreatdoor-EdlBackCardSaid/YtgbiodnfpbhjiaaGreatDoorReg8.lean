/-
  A pure operation under a guard, in a drawn region whose pure operations come first.
  Conditions: none.
-/
import Derived.Test.YtgbiodnfpbhjiaaGreatDoorKit
namespace Go.Proofs.YtgbiodnfpbhjiaaGreatDoor
open Go.RowKit
set_option linter.unusedVariables false

section
variable {P : Program} {ops : Array Oper} {md : Region.Mode} {Q : Exit → Act → World → Prop}
/-- in every world of S the operation yields v and leaves the world, or its guard keeps it away -/
def PureG (P : Program) (ops : Array Oper) (S : World → Prop) (o : Oper) (v : Value) (a : Act) : Prop :=
  (Region.wanted o (yielded ops a.tmps) = true ∧ ∀ w, S w → (execOp a.eval o).run P w = .ok (.value v) w) ∨ (Region.wanted o (yielded ops a.tmps) = false ∧ v = undef)
theorem PureG.wpOp {S : World → Prop} {i : Nat} {o : Oper} {v : Value} {a : Act} {w : World} {K : Act → World → Prop} (hi : ops[i]? = some o) (h : PureG P ops S o v a) (hw : S w) (hK : K (a.put o.dst v) w) : wpOp P ops Q i K a w := by
  unfold Go.wpOp
  simp only [hi]
  rcases h with ⟨h1, h2⟩ | ⟨h1, rfl⟩
  · rw [h1]
    simp only [if_true]
    refine .inl ?_
    unfold Oper.wp
    rw [h2 w hw]
    exact hK
  · rw [h1]
    simpa using hK
theorem PureG.of_same {S : World → Prop} {o : Oper} {v : Value} {a a' : Act} (hy : PureG P ops S o v a) (he : execOp a'.eval o = execOp a.eval o)
    (hw : Region.wanted o (yielded ops a'.tmps) = Region.wanted o (yielded ops a.tmps)) : PureG P ops S o v a' := by
  unfold PureG at *
  rw [he, hw]
  exact hy
theorem wpOp_putG {S : World → Prop} {K0 : Act → World → Prop} {j : Nat} {oi oj : Oper} {v : Value} (hj : ops[j]? = some oj) (hap : oi.apart ops oj = true)
    (hsi : ∀ cs b, oi.op ≠ .select cs b) (hsj : ∀ cs b, oj.op ≠ .select cs b) {K : Act → World → Prop} {a : Act} {w : World}
    (hy : PureG P ops S oi v a) (h : wpOp P ops (only K0) j K (a.put oi.dst v) w) :
    wpOp P ops (only K0) j (fun a' w' => PureG P ops S oi v a' ∧ K (a'.put oi.dst v) w') a w := by
  obtain ⟨h1, h2, h3⟩ := Oper.apart_spec hap
  have keep : ∀ (a : Act), PureG P ops S oi v a → ∀ u, PureG P ops S oi v (a.put oj.dst u) := fun a hy u =>
    hy.of_same (execOp_put oi hsi a oj.dst u h3) (wanted_put oi a oj.dst u h3)
  have keepD : ∀ d, PureG P ops S oi v { a with defers := d :: a.defers } := fun d => hy.of_same rfl rfl
  unfold wpOp at *
  simp only [hj] at *
  rw [wanted_put oj a oi.dst v h1] at h
  split
  · rename_i hw
    simp only [hw, if_true] at h
    rcases h with h | ⟨hasks, hlets⟩
    case inr => exact (letsOut_only hlets).elim
    refine .inl ?_
    unfold Oper.wp at *
    rw [execOp_put oj hsj a oi.dst v h1] at h
    generalize (execOp a.eval oj).run P w = r at *
    cases r with
    | ok n w' =>
      cases n <;> simp only [Oper.upon] at h ⊢
      case value u => exact ⟨keep a hy u, by rw [← Act.put_comm a v u h2]; exact h⟩
      case skip => exact ⟨keep a hy _, by rw [← Act.put_comm a v undef h2]; exact h⟩
      case defer d =>
        refine ⟨keep _ (keepD d) _, ?_⟩
        rw [← Act.put_comm _ v undef h2, ← Act.put_defers]
        exact h
      case enter f args =>
        refine Calls.mono h fun e w'' he => ?_
        cases e with
        | returned u => exact ⟨keep a hy u, by rw [← Act.put_comm a v u h2]; exact he⟩
        | panicked c => exact he
        | outgrown => exact he
      case row row args => exact Rows.mono h fun u w'' he => ⟨keep a hy u, by rw [← Act.put_comm a v u h2]; exact he⟩
    | halt x w' =>
      cases x <;> simp only [Oper.upon] at h ⊢
      case panic u => exact h
  · rename_i hw
    simp only [hw] at h
    exact ⟨keep a hy _, by rw [← Act.put_comm a v undef h2]; exact h⟩
theorem stillAny_firstG {S : Nat → World → Prop} {i : Nat} {oi : Oper} {v : Value} (hi : ops[i]? = some oi) (hsel : ∀ (j : Nat) (o : Oper) cs b, ops[j]? = some o → o.op ≠ .select cs b) :
    ∀ (f : Nat) (listed : Array Bool) (a : Act) (w : World), S i w →
      (∀ j oj, ops[j]? = some oj → j ≠ i → listed.getD j true = false → (∀ e ∈ oj.after, Region.binds md e = true → e.on ≠ i) → oi.apart ops oj = true) →
      i ∈ Region.ready md ops listed → PureG P ops (S i) oi v a →
      stillAny P md ops Q S f (listed.setIfInBounds i true) (a.put oi.dst v) w → stillAny P md ops Q S (f + 1) listed a w := by
  intro f
  induction f with
  | zero =>
    intro listed a w hW hfree hr hy H
    refine ⟨fun h => (by rw [h] at hr; cases hr), fun j hj => ?_⟩
    by_cases hji : j = i
    · subst hji; exact hy.wpOp hi hW ⟨fun _ _ h => h, H⟩
    · have := ready_mono hj hji
      rw [H.1] at this
      cases this
  | succ f ih =>
    intro listed a w hW hfree hr hy H
    refine ⟨fun h => (by rw [h] at hr; cases hr), fun j hj => ?_⟩
    by_cases hji : j = i
    · subst hji; exact hy.wpOp hi hW ⟨fun _ _ h => h, H⟩
    · obtain ⟨hjun, oj, hoj, hall⟩ := mem_ready.1 hj
      have hnot : ∀ e ∈ oj.after, Region.binds md e = true → e.on ≠ i := fun e he hb heq => by
        have h1 := hall e he hb
        rw [heq, getD_both (mem_ready.1 hr).1] at h1
        cases h1
      have hnw : ¬ waitsFor md ops j i := fun ⟨o, ho, e, he, hb, heq⟩ => by
        rw [hoj] at ho
        injection ho with ho
        subst ho
        exact hnot e he hb heq
      have hap := hfree j oj hoj hji hjun hnot
      have hfree' : ∀ k ok, ops[k]? = some ok → k ≠ i → (listed.setIfInBounds j true).getD k true = false →
          (∀ e ∈ ok.after, Region.binds md e = true → e.on ≠ i) → oi.apart ops ok = true := fun k ok hk hki hun' hno => by
        refine hfree k ok hk hki ?_ hno
        by_cases hjk : j = k
        · subst hjk; exact hjun
        · rw [getD_set_ne true hjk] at hun'; exact hun'
      have h1 := H.2 j (ready_mono hj hji)
      have h2 := wpOp_putG hoj hap (fun cs b => hsel i oi cs b hi) (fun cs b => hsel j oj cs b hoj) hy h1
      refine wpOp_mono (fun a' w'' h3 => ⟨h3.2.1, ih (listed.setIfInBounds j true) a' w'' (h3.2.1 i hnw hW) hfree' (ready_mono hr (Ne.symm hji)) h3.1 ?_⟩) h2
      rw [Array.setIfInBounds_comm _ _ hji]
      exact h3.2.2
theorem wanted_at {o oj : Oper} {j d : Nat} {b w : Bool} {tmps : Array Value} (hg : o.guard = some (j, w)) (hj : ops[j]? = some oj) (hd : oj.dst = some d) (ht : tmps.toList[d]? = some (.bool b)) : Region.wanted o (yielded ops tmps) = (b == w) := by
  unfold Region.wanted yielded
  rw [Array.getElem?_toList] at ht
  simp only [hg, hj, Option.bind_some, hd, ht]
  rfl
/-- a guarded pure operation comes first: it is wanted -/
theorem still_wanted {S : Nat → World → Prop} (i : Nat) {oi oj : Oper} {v : Value} {f j d : Nat} {b : Bool} {listed : Array Bool} {a : Act} {w : World} (hi : ops[i]? = some oi) (hsel : Region.noSelect ops = true)
    (hf : Region.free md ops listed i = true) (hr : (Region.ready md ops listed).contains i = true) (hS : S i w) (hg : oi.guard = some (j, b)) (hj : ops[j]? = some oj) (hd : oj.dst = some d) (ht : a.tmps.toList[d]? = some (.bool b))
    (hy : ∀ w, S i w → (execOp a.eval oi).run P w = .ok (.value v) w)
    (h : stillAny P md ops Q S f (listed.setIfInBounds i true) (a.put oi.dst v) w) : stillAny P md ops Q S (f + 1) listed a w :=
  stillAny_firstG hi (Region.noSelect_spec hsel) f listed a w hS (Region.free_spec hi hf) (by simpa using hr) (.inl ⟨by rw [wanted_at hg hj hd ht]; cases b <;> rfl, hy⟩) h
/-- a guarded operation is not wanted -/
theorem still_unwanted {S : Nat → World → Prop} (i : Nat) {oi oj : Oper} {f j d : Nat} {b : Bool} {listed : Array Bool} {a : Act} {w : World} (hi : ops[i]? = some oi) (hsel : Region.noSelect ops = true)
    (hf : Region.free md ops listed i = true) (hr : (Region.ready md ops listed).contains i = true) (hS : S i w) (hg : oi.guard = some (j, b)) (hj : ops[j]? = some oj) (hd : oj.dst = some d) (ht : a.tmps.toList[d]? = some (.bool !b))
    (h : stillAny P md ops Q S f (listed.setIfInBounds i true) (a.put oi.dst undef) w) : stillAny P md ops Q S (f + 1) listed a w :=
  stillAny_firstG hi (Region.noSelect_spec hsel) f listed a w hS (Region.free_spec hi hf) (by simpa using hr) (.inr ⟨by rw [wanted_at hg hj hd ht]; cases b <;> rfl, rfl⟩) h
end
end Go.Proofs.YtgbiodnfpbhjiaaGreatDoor
