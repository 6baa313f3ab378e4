/-
  A law for regions that draw their order and make one variable: every operation reads old memory or calls a function that at most makes new memory; the new variable may be made at any moment; the last operations, in one forced order, may write.
  Conditions: none.
-/
import Derived.Test.YtclfiaemjdflbaaDoorReg
namespace Go.Proofs.YtclfiaemjdflbaaDoor
open Go.RowKit
set_option linter.unusedVariables false

theorem wp_gen {P : Program} {c : Code} {Q : Exit → Act → World → Prop} {a : Act} {W : World} (R : World → Prop) (hR : R W) (h : ∀ W', R W' → c.wp P Q a W') : c.wp P Q a W := h W hR

theorem calls_gen {P : Program} {f : FuncId} {args : Array Value} {p : Ending → World → Prop} {W : World} (R : World → Prop) (hR : R W) (h : ∀ W', R W' → Calls P f args W' p) : Calls P f args W p := h W hR

section
variable {P : Program}
/-- a frame that can go no further -/
def deadFrame : Frame := { fn := 0, tmps := #[], todo := [.code (.cond (.const (.int .i64 0)) .skip .skip)], defers := [], mode := .run, kind := .normal }
theorem dead_step (v : Value) (w : World) : ∃ o w', step P (lone (deadFrame.finish v) [] w) = .ended o w' := by
  refine ⟨_, _, step_lone_ended (w' := w) (o := .stuck "cond: bool expected" (deadFrame.pos P)) ?_⟩
  rfl
/-- what a call returns is one value -/
theorem calls_unique {f : FuncId} {args : Array Value} {w : World} {v v' : Value} (h : Calls P f args w fun e _ => e = .returned v) (h' : Calls P f args w fun e _ => e = .returned v') : v = v' := by
  obtain ⟨e1, w1, fr1, rfl, hc1, hf1, hl1⟩ := h [deadFrame]
  obtain ⟨e2, w2, fr2, rfl, hc2, hf2, hl2⟩ := h' [deadFrame]
  obtain ⟨n1, hn1⟩ := hc1
  obtain ⟨n2, hn2⟩ := hc2
  have key : ∀ (n1 n2 : Nat) (w1 w2 : World) (fr1 fr2 : Frame) (v v' : Value), n1 ≤ n2 → runN P n1 (lone (Frame.enter P f args .normal) [deadFrame] w) = .next (lone fr1 [deadFrame] w1) → runN P n2 (lone (Frame.enter P f args .normal) [deadFrame] w) = .next (lone fr2 [deadFrame] w2) →
      fr1.leaving P w1 (.returned v) → fr2.leaving P w2 (.returned v') → v = v' := by
    intro n1 n2 w1 w2 fr1 fr2 v v' hle hn1 hn2 hl1 hl2
    obtain ⟨d, rfl⟩ := Nat.exists_eq_add_of_le hle
    rw [runN_add, hn1] at hn2
    simp only at hn2
    have hs := step_leave_returned (c := deadFrame) (cs := []) hl1
    match d, hn2 with
    | 0, hn2 =>
      simp only [runN] at hn2
      have hm : lone fr1 [deadFrame] w1 = lone fr2 [deadFrame] w2 := by injection hn2
      have h1 : w1 = w2 := congrArg Machine.world hm
      have h2 : fr1 = fr2 := by
        have h3 := congrArg (fun m => (m.gs[0]?).map (·.frame)) hm
        simpa [lone] using h3
      subst h1 h2
      obtain ⟨_, _, _, fn, hfn, hr⟩ := hl1
      obtain ⟨_, _, _, fn', hfn', hr'⟩ := hl2
      rw [hfn] at hfn'
      injection hfn' with hfn'
      subst hfn'
      rw [hr] at hr'
      injection hr'
    | 1, hn2 =>
      simp only [runN, hs] at hn2
      have hm : lone (deadFrame.finish v) [] w1 = lone fr2 [deadFrame] w2 := by injection hn2
      have h3 := congrArg (fun m => (m.gs[0]?).map (·.callers)) hm
      simp [lone] at h3
    | d + 2, hn2 =>
      obtain ⟨o, w', hd⟩ := dead_step (P := P) v w1
      simp only [runN, hs, hd] at hn2
      cases hn2
  rcases Nat.le_total n1 n2 with hle | hle
  · exact key n1 n2 w1 w2 fr1 fr2 v v' hle hn1 hn2 hl1 hl2
  · exact (key n2 n1 w2 w1 fr2 fr1 v' v hle hn2 hn1 hl2 hl1).symm

variable {ops : Array Oper} {md : Region.Mode}
theorem quietAt_unique {C C' : World → Prop} {o : Oper} {a : Act} {w : World} {v v' : Value} (h : o.quietAt P a C w v) (h' : o.quietAt P a C' w v') : v = v' := by
  unfold Oper.quietAt at h h'
  generalize (execOp a.eval o).run P w = r at *
  cases r with
  | halt x w' => simp only [Oper.quietUpon] at h
  | ok n w' =>
    cases n <;> simp only [Oper.quietUpon] at h h'
    case value u => rw [← h.2, ← h'.2]
    case skip => rw [h.2, h'.2]
    case enter f args => exact calls_unique (h.2.mono fun _ _ x => x.1) (h'.2.mono fun _ _ x => x.1)
theorem quietAt_mono {C C' : World → Prop} {o : Oper} {a : Act} {w : World} {v : Value} (hC : ∀ w', C w' → C' w') (h : o.quietAt P a C w v) : o.quietAt P a C' w v := by
  unfold Oper.quietAt at *
  generalize (execOp a.eval o).run P w = r at *
  cases r with
  | halt x w' => simp only [Oper.quietUpon] at h
  | ok n w' =>
    cases n <;> simp only [Oper.quietUpon] at h ⊢
    case value u => exact h
    case skip => exact h
    case enter f args => exact ⟨h.1, h.2.mono fun _ _ x => ⟨x.1, hC _ x.2⟩⟩

/-- one value in every world above W, and the world behind is above the world ahead -/
def YR (P : Program) (ops : Array Oper) (W : World) (o : Oper) (v : Value) (a : Act) : Prop :=
  (Region.wanted o (yielded ops a.tmps) = true ∧ ∀ x, Gr W x → o.quietAt P a (fun w' => Gr x w') x v) ∨ (Region.wanted o (yielded ops a.tmps) = false ∧ v = undef)
theorem YR.yields {W B : World} (hB : Gr W B) {o : Oper} {v : Value} {a : Act} (h : YR P ops W o v a) : YieldsIn P ops (fun w' => Gr B w') o v a := by
  rcases h with ⟨h1, h2⟩ | ⟨h1, h2⟩
  · exact .inl ⟨h1, fun w hw => quietAt_mono (fun w' hw' => hw.trans hw') (h2 w (hB.trans hw))⟩
  · exact .inr ⟨h1, h2⟩
theorem YR.keep {W : World} {oi oj : Oper} {v u : Value} {a : Act} (hsi : ∀ cs b, oi.op ≠ .select cs b) (h3 : ∀ d, oj.dst = some d → d ∉ oi.looksAt ops) (h : YR P ops W oi v a) : YR P ops W oi v (a.put oj.dst u) := by
  unfold YR Oper.quietAt at *
  rw [execOp_put oi hsi a oj.dst u h3, wanted_put oi a oj.dst u h3]
  exact h

/-- the walk in the order of the text -/
def wpQuietR (P : Program) (ops : Array Oper) (W : World) (Q : Act → Prop) : List Oper → Act → Prop
  | [], a => Q a
  | o :: rest, a => ∃ v, YR P ops W o v a ∧ wpQuietR P ops W Q rest (a.put o.dst v)
theorem rel_of {W : World} {Fin : World → Act → Prop} : ∀ (l : List Oper) (a : Act), (∀ B, Gr W B → wpQuiet P ops (fun w' => ∃ x : GW B, w' = x.w) (Fin B) l a) → wpQuietR P ops W (fun a' => ∀ B, Gr W B → Fin B a') l a
  | [], a, h => h
  | o :: l, a, h => by
    by_cases hw : Region.wanted o (yielded ops a.tmps) = true
    · have h0 := h W (Gr.refl W)
      simp only [wpQuiet, hw, if_true] at h0
      obtain ⟨v, hv, -⟩ := h0
      have h1 : ∀ B, Gr W B → (∀ w, (∃ x : GW B, w = x.w) → o.quietAt P a (fun w' => ∃ x : GW B, w' = x.w) w v) ∧ wpQuiet P ops (fun w' => ∃ x : GW B, w' = x.w) (Fin B) l (a.put o.dst v) := fun B hB => by
        have hb := h B hB
        simp only [wpQuiet, hw, if_true] at hb
        obtain ⟨u, hu, hn⟩ := hb
        have e : u = v := quietAt_unique (hu B ⟨⟨B, Gr.refl B⟩, rfl⟩) (hv B ⟨⟨B, hB⟩, rfl⟩)
        subst e
        exact ⟨hu, hn⟩
      exact ⟨v, .inl ⟨hw, fun x hx => quietAt_mono (fun w' ⟨y, hy⟩ => by rw [hy]; exact y.h) ((h1 x hx).1 x ⟨⟨x, Gr.refl x⟩, rfl⟩)⟩, rel_of l _ fun B hB => (h1 B hB).2⟩
    · refine ⟨undef, .inr ⟨by simpa using hw, rfl⟩, rel_of l _ fun B hB => ?_⟩
      have hb := h B hB
      simpa only [wpQuiet, hw, Bool.false_eq_true, if_false] using hb

/-- an operation apart from oi: it may come before -/
theorem qOp_put2 {C : World → Prop} {j : Nat} {oi oj : Oper} {v : Value} (hj : ops[j]? = some oj) (hap : oi.apart ops oj = true) (hsj : ∀ cs b, oj.op ≠ .select cs b) {K : Act → Prop} {a : Act}
    (h : qOp P ops C j K (a.put oi.dst v)) : qOp P ops C j (fun a' => (∃ u, a' = a.put oj.dst u) ∧ K (a'.put oi.dst v)) a := by
  obtain ⟨h1, h2, h3⟩ := Oper.apart_spec hap
  unfold qOp at *
  simp only [hj] at *
  rw [wanted_put oj a oi.dst v h1] at h
  split
  · rename_i hw
    simp only [hw, if_true] at h
    obtain ⟨u, hu, hn⟩ := h
    refine ⟨u, fun w hw' => ?_, ⟨u, rfl⟩, by rw [← Act.put_comm a v u h2]; exact hn⟩
    have := hu w hw'
    unfold Oper.quietAt at *
    rwa [execOp_put oj hsj a oi.dst v h1] at this
  · rename_i hw
    simp only [hw] at h
    exact ⟨⟨_, rfl⟩, by rw [← Act.put_comm a v undef h2]; exact h⟩

/-- the variable made at any moment: operation n makes it -/
def madeAny (P : Program) (md : Region.Mode) (ops : Array Oper) (W : World) (o : Obj) (n : Nat) (d : Option Tmp) (L : World → Array Bool → Act → Prop) : Nat → Array Bool → Act → Prop
  | 0, listed, a => Region.ready md ops listed ≠ [] ∧ ∀ i ∈ Region.ready md ops listed, i = n ∧ ∀ w0, Gr W w0 → L w0 (listed.setIfInBounds n true) (a.put d (.pointer (some ⟨w0.heap.size, 0, none⟩)))
  | f + 1, listed, a => Region.ready md ops listed ≠ [] ∧ ∀ i ∈ Region.ready md ops listed,
      (i < n ∧ qOp P ops (fun w' => Gr W w') i (madeAny P md ops W o n d L f (listed.setIfInBounds i true)) a) ∨
      (i = n ∧ ∀ w0, Gr W w0 → headAny P md ops (fun w' => Gr (w0.alloc o) w') (n + 1) (L w0) (f + 1) (listed.setIfInBounds n true) (a.put d (.pointer (some ⟨w0.heap.size, 0, none⟩))))
theorem madeAny_wp {W : World} {o : Obj} {n g : Nat} {d : Option Tmp} {oa : Oper} {L : World → Array Bool → Act → Prop} {Q' : Exit → Act → World → Prop} (hn : ops[n]? = some oa) (hd : oa.dst = d) (hw : ∀ a : Act, Region.wanted oa (yielded ops a.tmps) = true)
    (hz : ∀ (a : Act) (w : World), (execOp a.eval oa).run P w = .ok (.value (.pointer (some ⟨w.heap.size, 0, none⟩))) (w.alloc o))
    (hL : ∀ w0, Gr W w0 → ∀ listed a w, Gr (w0.alloc o) w → L w0 listed a → wpAny P md ops Q' g listed a w) :
    ∀ (f : Nat) (listed : Array Bool) (a : Act) (w : World), Gr W w → madeAny P md ops W o n d L f listed a → wpAny P md ops Q' (f + 1 + g) listed a w
  | 0, listed, a, w, hW, h => by
    rw [show 0 + 1 + g = g + 1 by omega]
    refine ⟨fun h0 => absurd h0 h.1, fun i hi => ?_⟩
    obtain ⟨rfl, h2⟩ := h.2 i hi
    unfold wpOp
    simp only [hn, hw, if_true]
    refine .inl ?_
    unfold Oper.wp
    rw [hz]
    simp only [Oper.upon]
    rw [hd]
    exact hL w hW _ _ _ (Gr.refl _) (h2 w hW)
  | f + 1, listed, a, w, hW, h => by
    rw [show f + 1 + 1 + g = (f + 1 + g) + 1 by omega]
    refine ⟨fun h0 => absurd h0 h.1, fun i hi => ?_⟩
    rcases h.2 i hi with ⟨h1, h2⟩ | ⟨rfl, h2⟩
    · exact wpOp_of_qOp hW (fun a' w' hw' h' => madeAny_wp hn hd hw hz hL f _ a' w' hw' h') h2
    · unfold wpOp
      simp only [hn, hw, if_true]
      refine .inl ?_
      unfold Oper.wp
      rw [hz]
      simp only [Oper.upon]
      rw [hd]
      exact headAny_wp (fun listed a w' hw' h' => hL w hW listed a w' hw' h') (f + 1) _ _ _ (Gr.refl _) (h2 w hW)

theorem madeAny_first {W : World} {o : Obj} {n i : Nat} {d : Option Tmp} {oa oi : Oper} {v : Value} {L : World → Array Bool → Act → Prop} (hna : ops[n]? = some oa) (hd : oa.dst = d) (hi : ops[i]? = some oi) (hsel : ∀ (j : Nat) (o : Oper) cs b, ops[j]? = some o → o.op ≠ .select cs b)
    (hs : Region.sinkB md ops (n + 1) = true) (hc : Region.chainB md ops (n + 1) = true) (hn : n + 1 < ops.size) (hin : i < n) (hae : ∀ e ∈ oa.after, Region.binds md e = true → e.on ≠ i)
    (hdone : ∀ w0 listed a, L w0 listed a → ∀ j ∈ Region.ready md ops listed, n + 1 ≤ j) :
    ∀ (f : Nat) (listed : Array Bool) (a : Act), HeadInv md ops (n + 1) listed → listed.getD n true = false →
      (∀ j oj, ops[j]? = some oj → j ≠ i → listed.getD j true = false → (∀ e ∈ oj.after, Region.binds md e = true → e.on ≠ i) → oi.apart ops oj = true) →
      i ∈ Region.ready md ops listed → YR P ops W oi v a →
      madeAny P md ops W o n d L f (listed.setIfInBounds i true) (a.put oi.dst v) → madeAny P md ops W o n d L (f + 1) listed a := by
  have alloc : ∀ (f : Nat) (listed : Array Bool) (a : Act) (w0 : World), Gr W w0 → HeadInv md ops (n + 1) listed → listed.getD n true = false → n ∈ Region.ready md ops listed →
      (∀ j oj, ops[j]? = some oj → j ≠ i → listed.getD j true = false → (∀ e ∈ oj.after, Region.binds md e = true → e.on ≠ i) → oi.apart ops oj = true) →
      i ∈ Region.ready md ops listed → YR P ops W oi v a →
      headAny P md ops (fun w' => Gr (w0.alloc o) w') (n + 1) (L w0) f ((listed.setIfInBounds i true).setIfInBounds n true) ((a.put oi.dst v).put d (.pointer (some ⟨w0.heap.size, 0, none⟩))) →
      headAny P md ops (fun w' => Gr (w0.alloc o) w') (n + 1) (L w0) (f + 1) (listed.setIfInBounds n true) (a.put d (.pointer (some ⟨w0.heap.size, 0, none⟩))) := by
    intro f listed a w0 hw0 inv hun hrn hfree hr hy H
    have hap := hfree n oa hna (by omega) hun hae
    obtain ⟨h1, h2, h3⟩ := Oper.apart_spec hap
    refine headAny_first (v := v) hi hsel hs hc hn (by omega) (hdone w0) f (listed.setIfInBounds n true) _ (inv.set hrn (by omega)) (fun j oj hoj hji hjun hno => ?_) (ready_mono hr (by omega)) ?_ ?_
    · refine hfree j oj hoj hji ?_ hno
      by_cases hjn : n = j
      · subst hjn; exact hun
      · rw [getD_set_ne true hjn] at hjun; exact hjun
    · have hk := (hy.keep (u := .pointer (some ⟨w0.heap.size, 0, none⟩)) (fun cs b => hsel i oi cs b hi) h3)
      rw [hd] at hk
      exact hk.yields (hw0.alloc o)
    · rw [Array.setIfInBounds_comm _ _ (show i ≠ n by omega)] at H
      rw [← hd] at H ⊢
      rw [Act.put_comm a v _ h2] at H
      exact H
  intro f
  induction f with
  | zero =>
    intro listed a inv hnun hfree hr hy H
    have hun := (mem_ready.1 hr).1
    refine ⟨fun h => (by rw [h] at hr; cases hr), fun j hj => ?_⟩
    have hjn : j < n + 1 := by
      rcases Nat.lt_or_ge j (n + 1) with h | h
      · exact h
      · exact absurd hj (tail_waits hs hc hn inv _ i rfl (by omega) hun j h)
    by_cases hji : j = i
    · subst hji; exact .inl ⟨hin, (hy.yields (Gr.refl W)).qOp hi H⟩
    · have h1 := H.2 j (ready_mono hj hji)
      obtain ⟨rfl, h2⟩ := h1
      exact .inr ⟨rfl, fun w0 hw0 => alloc 0 listed a w0 hw0 inv hnun hj hfree hr hy (h2 w0 hw0)⟩
  | succ f ih =>
    intro listed a inv hnun hfree hr hy H
    have hun := (mem_ready.1 hr).1
    refine ⟨fun h => (by rw [h] at hr; cases hr), fun j hj => ?_⟩
    have hjn : j < n + 1 := by
      rcases Nat.lt_or_ge j (n + 1) with h | h
      · exact h
      · exact absurd hj (tail_waits hs hc hn inv _ i rfl (by omega) hun j h)
    by_cases hji : j = i
    · subst hji; exact .inl ⟨hin, (hy.yields (Gr.refl W)).qOp hi H⟩
    · rcases H.2 j (ready_mono hj hji) with ⟨h0, h1⟩ | ⟨rfl, h2⟩
      · obtain ⟨hjun, oj, hoj, hall⟩ := mem_ready.1 hj
        have hnot : ∀ e ∈ oj.after, Region.binds md e = true → e.on ≠ i := fun e he hb heq => by
          have h1 := hall e he hb
          rw [heq, getD_both hun] at h1
          cases h1
        have hap := hfree j oj hoj hji hjun hnot
        obtain ⟨k1, k2, k3⟩ := Oper.apart_spec hap
        have h2 := qOp_put2 hoj hap (fun cs b => hsel j oj cs b hoj) h1
        have hfree' : ∀ k ok, ops[k]? = some ok → k ≠ i → (listed.setIfInBounds j true).getD k true = false →
            (∀ e ∈ ok.after, Region.binds md e = true → e.on ≠ i) → oi.apart ops ok = true := fun k ok hk hki hun' hno => by
          refine hfree k ok hk hki ?_ hno
          by_cases hjk : j = k
          · subst hjk; exact hjun
          · rw [getD_set_ne true hjk] at hun'; exact hun'
        refine .inl ⟨h0, qOp_mono (fun a' h3 => ?_) h2⟩
        obtain ⟨⟨u, rfl⟩, h4⟩ := h3
        refine ih (listed.setIfInBounds j true) _ (inv.set hj hjn) (by rw [getD_set_ne true (by omega)]; exact hnun) hfree' (ready_mono hr (Ne.symm hji)) (hy.keep (fun cs b => hsel i oi cs b hi) k3) ?_
        rw [Array.setIfInBounds_comm _ _ hji]
        exact h4
      · exact .inr ⟨rfl, fun w0 hw0 => alloc (f + 1) listed a w0 hw0 inv hnun hj hfree hr hy (h2 w0 hw0)⟩

def lexMade (md : Region.Mode) (ops : Array Oper) (g : Nat) : Nat → Nat → Array Bool → Bool
  | 0, k, listed => decide (Region.ready md ops listed = [k]) && Region.seqB md ops g (k + 1) (listed.setIfInBounds k true)
  | f + 1, k, listed => (Region.ready md ops listed).contains k && Region.free md ops listed k && lexMade md ops g f (k + 1) (listed.setIfInBounds k true)
def noAfter (ops : Array Oper) (n : Nat) : Bool := match ops[n]? with | some o => o.after.isEmpty | none => false
def lexMadeB (md : Region.Mode) (ops : Array Oper) (n : Nat) : Bool :=
  Region.noSelect ops && decide (n + 1 < ops.size) && Region.sinkB md ops (n + 1) && Region.chainB md ops (n + 1) && noAfter ops n && lexMade md ops (ops.size - (n + 1)) n 0 (Array.replicate ops.size false)

theorem madeAny_lex {W : World} {o : Obj} {n g : Nat} {d : Option Tmp} {oa : Oper} {Lq : World → Act → Prop} (hna : ops[n]? = some oa) (hd : oa.dst = d) (hsel : Region.noSelect ops = true) (hs : Region.sinkB md ops (n + 1) = true) (hc : Region.chainB md ops (n + 1) = true) (hn : n + 1 < ops.size) (hae : oa.after = #[]) :
    ∀ (l : List Oper) (k : Nat) (listed : Array Bool) (a : Act), (∀ j, j < l.length → l[j]? = ops[k + j]?) → k + l.length = n → HeadInv md ops (n + 1) listed → listed.getD n true = false →
    lexMade md ops g l.length k listed = true → wpQuietR P ops W (fun a' => ∀ w0, Gr W w0 → Lq w0 (a'.put d (.pointer (some ⟨w0.heap.size, 0, none⟩)))) l a →
    madeAny P md ops W o n d (fun w0 listed' a' => Region.seqB md ops g (n + 1) listed' = true ∧ Lq w0 a') l.length listed a
  | [], k, listed, a, _, hk, _, _, hB, h => by
    have : k = n := by simpa using hk
    subst this
    simp only [List.length_nil, lexMade, Bool.and_eq_true, decide_eq_true_eq] at hB
    refine ⟨by rw [hB.1]; simp, fun i hi => ?_⟩
    rw [hB.1] at hi
    exact ⟨by simpa using hi, fun w0 hw0 => ⟨hB.2, h w0 hw0⟩⟩
  | o1 :: l, k, listed, a, hl, hk, inv, hnun, hB, h => by
    have h0 : ops[k]? = some o1 := by simpa using (hl 0 (by simp)).symm
    simp only [List.length_cons, lexMade, Bool.and_eq_true] at hB
    obtain ⟨⟨hr, hf⟩, hB'⟩ := hB
    have hkn : k < n := by simp only [List.length_cons] at hk; omega
    have hr' : k ∈ Region.ready md ops listed := by simpa using hr
    obtain ⟨v, hy, hK⟩ := h
    exact madeAny_first hna hd h0 (Region.noSelect_spec hsel) hs hc hn hkn (by rw [hae]; simp) (fun w0 listed' a' hL => seqB_ready hL.1) l.length listed a inv hnun (Region.free_spec h0 hf) hr' hy
      (madeAny_lex hna hd hsel hs hc hn hae l (k + 1) _ _ (fun j hj => by have := hl (j + 1) (by simp; omega); simpa [Nat.add_assoc, Nat.add_comm 1 j] using this) (by simp only [List.length_cons] at hk; omega) (inv.set hr' (by omega)) (by rw [getD_set_ne true (by omega)]; exact hnun) hB' hK)

theorem wp_region_gr_made {id : Nat} {Q : Exit → Act → World → Prop} {a : Act} {W : World} {l : List Oper} (n : Nat) (o : Obj) (oa : Oper) (hm : P.follows .mixedOrders = true) (hB : lexMadeB .any l.toArray n = true) (hna : l.toArray[n]? = some oa) (hg : oa.guard = none)
    (hz : ∀ (a : Act) (w : World), (execOp a.eval oa).run P w = .ok (.value (.pointer (some ⟨w.heap.size, 0, none⟩))) (w.alloc o))
    (h : ∀ B, Gr W B → (∀ (x : GW B) (b o : Nat), b < W.heap.size → x.w.cell? ⟨b, o, none⟩ = W.cell? ⟨b, o, none⟩) → (∀ (x : GW B) (b o : Nat), b < W.heap.size → x.w.frozen? ⟨b, o, none⟩ = W.frozen? ⟨b, o, none⟩) →
      wpQuiet P l.toArray (fun w' => ∃ x : GW B, w' = x.w) (fun a' => ∀ w0, Gr W w0 → B = w0.alloc o → ∀ w', Gr (w0.alloc o) w' → wpList P l.toArray Q (l.drop (n + 1)) (a'.put oa.dst (.pointer (some ⟨w0.heap.size, 0, none⟩))) w') (l.take n) a) : (Code.region id l.toArray true).wp P Q a W := by
  simp only [lexMadeB, Bool.and_eq_true, decide_eq_true_eq] at hB
  obtain ⟨⟨⟨⟨⟨hsel, hn⟩, hs⟩, hc⟩, hae⟩, hlex⟩ := hB
  have hn' : n + 1 < l.length := by simpa using hn
  have htl : (l.take n).length = n := by simp; omega
  have hdl : (l.drop (n + 1)).length = l.toArray.size - (n + 1) := by simp
  have hae' : oa.after = #[] := by
    unfold noAfter at hae
    rw [hna] at hae
    exact Array.isEmpty_iff.1 hae
  have hwant : ∀ a : Act, Region.wanted oa (yielded l.toArray a.tmps) = true := fun a => by unfold Region.wanted; rw [hg]
  have inv0 : HeadInv .any l.toArray (n + 1) (Array.replicate l.toArray.size false) :=
    ⟨by simp, fun j oj _ hl => (by rw [getD_replicate_false] at hl; cases hl), fun t _ ht => getD_in (by simpa using ht) (getD_replicate_false _ _)⟩
  have hR := rel_of (P := P) (ops := l.toArray) (W := W) (l.take n) a (fun B hB => h B hB (fun x b o hb => (hB.trans x.h).cells.1 b o hb) (fun x b o hb => (hB.trans x.h).cells.2 b o hb))
  have hR2 : wpQuietR P l.toArray W (fun a' => ∀ w0, Gr W w0 → (fun (w0 : World) (a2 : Act) => ∀ w', Gr (w0.alloc o) w' → wpList P l.toArray Q (l.drop (n + 1)) a2 w') w0 (a'.put oa.dst (.pointer (some ⟨w0.heap.size, 0, none⟩)))) (l.take n) a := by
    have mono : ∀ (Q1 Q2 : Act → Prop), (∀ a, Q1 a → Q2 a) → ∀ (k : List Oper) (a : Act), wpQuietR P l.toArray W Q1 k a → wpQuietR P l.toArray W Q2 k a := by
      intro Q1 Q2 hq k
      induction k with
      | nil => intro a h; exact hq _ h
      | cons o1 k ih => intro a ⟨v, h1, h2⟩; exact ⟨v, h1, ih _ h2⟩
    exact mono _ _ (fun a' h0 w0 hw0 => h0 (w0.alloc o) (hw0.alloc o) w0 hw0 rfl) _ _ hR
  have H := madeAny_lex (P := P) (W := W) (md := .any) (g := l.toArray.size - (n + 1)) (o := o) (Lq := fun (w0 : World) (a2 : Act) => ∀ w', Gr (w0.alloc o) w' → wpList P l.toArray Q (l.drop (n + 1)) a2 w') hna rfl hsel hs hc hn hae' (l.take n) 0 _ a (fun j hj => by
    have hj' : j < n := by rw [htl] at hj; exact hj
    simp [hj']) (by simpa using htl) inv0 (getD_in (by simp at hn ⊢; omega) (getD_replicate_false _ _)) (by rw [htl]; exact hlex) hR2
  refine wp_region_any hm ?_
  have := madeAny_wp (Q' := Q) (g := l.toArray.size - (n + 1)) (W := W) hna rfl hwant hz (fun w0 hw0 listed a' w' hw' hL => by
    have := wpAny_of_seq (md := .any) (Q' := Q) (l.drop (n + 1)) (n + 1) listed a' w' (fun j => by simp [List.getElem?_drop]) (by rw [hdl]; exact hL.1) (hL.2 w' hw')
    rwa [hdl] at this) _ _ _ { W with drawn := W.drawn + 1 } ((Gr.refl W).drew) H
  rw [htl, show n + 1 + (l.toArray.size - (n + 1)) = l.toArray.size by omega] at this
  exact this
end
end Go.Proofs.YtclfiaemjdflbaaDoor
