/-
  Laws for regions that draw their order and make one variable, or two: what is known of the new blocks, said of a world that is a letter.
  Conditions: none.
-/
import Derived.Test.YtclfiaemjdflbaaDoorReg2
import Derived.OneCell
namespace Go.Proofs.YtclfiaemjdflbaaDoor
open Go.RowKit
set_option linter.unusedVariables false

theorem cells_of_block {w : World} {b : Nat} {c : Array Value} {t : TypeId} (h : w.heap[b]? = some (.cells c t (0, 0))) (j : Nat) : w.cell? ⟨b, j, none⟩ = c[j]? := by simp [World.cell?, h]
theorem mark_of_block {w : World} {b : Nat} {c : Array Value} {t : TypeId} (h : w.heap[b]? = some (.cells c t (0, 0))) (j : Nat) : w.frozen? ⟨b, j, none⟩ = false := by simp [World.frozen?, h]
theorem block_gr {W w : World} {b : Nat} {o : Obj} (hg : Gr W w) (h : W.heap[b]? = some o) : w.heap[b]? = some o := by rw [Below.block hg b (lt_of_block h)]; exact h

section
variable {P : Program} {ops : Array Oper} {md : Region.Mode}
theorem YR.mono {W B : World} (hB : Gr W B) {o : Oper} {v : Value} {a : Act} (h : YR P ops W o v a) : YR P ops B o v a := by
  rcases h with ⟨h1, h2⟩ | h
  · exact .inl ⟨h1, fun x hx => h2 x (hB.trans hx)⟩
  · exact .inr h

/-- one variable is still to be made: operation m makes it; the heads are the operations below n, the tail begins at N -/
def madeG (P : Program) (md : Region.Mode) (ops : Array Oper) (W : World) (o : Obj) (n m N : Nat) (d : Option Tmp) (L : World → Array Bool → Act → Prop) : Nat → Array Bool → Act → Prop
  | 0, listed, a => Region.ready md ops listed ≠ [] ∧ ∀ i ∈ Region.ready md ops listed, i = m ∧ ∀ w0, Gr W w0 → L w0 (listed.setIfInBounds m true) (a.put d (.pointer (some ⟨w0.heap.size, 0, none⟩)))
  | f + 1, listed, a => Region.ready md ops listed ≠ [] ∧ ∀ i ∈ Region.ready md ops listed,
      (i < n ∧ qOp P ops (fun w' => Gr W w') i (madeG P md ops W o n m N d L f (listed.setIfInBounds i true)) a) ∨
      (i = m ∧ ∀ w0, Gr W w0 → headAny P md ops (fun w' => Gr (w0.alloc o) w') N (L w0) (f + 1) (listed.setIfInBounds m true) (a.put d (.pointer (some ⟨w0.heap.size, 0, none⟩))))
theorem madeG_wp {W : World} {o : Obj} {n m N g : Nat} {d : Option Tmp} {oa : Oper} {L : World → Array Bool → Act → Prop} {Q' : Exit → Act → World → Prop} (hn : ops[m]? = some oa) (hd : oa.dst = d) (hw : ∀ a : Act, Region.wanted oa (yielded ops a.tmps) = true)
    (hz : ∀ (a : Act) (w : World), (execOp a.eval oa).run P w = .ok (.value (.pointer (some ⟨w.heap.size, 0, none⟩))) (w.alloc o))
    (hL : ∀ w0, Gr W w0 → ∀ listed a w, Gr (w0.alloc o) w → L w0 listed a → wpAny P md ops Q' g listed a w) :
    ∀ (f : Nat) (listed : Array Bool) (a : Act) (w : World), Gr W w → madeG P md ops W o n m N d L f listed a → wpAny P md ops Q' (f + 1 + g) listed a w
  | 0, listed, a, w, hW, h => by
    rw [show 0 + 1 + g = g + 1 by omega]
    refine ⟨fun h0 => absurd h0 h.1, fun i hi => ?_⟩
    obtain ⟨rfl, h2⟩ := h.2 i hi
    unfold wpOp
    simp only [hn, hw, if_true]
    refine .inl ?_
    unfold Oper.wp
    rw [hz]
    simp only [Oper.upon]
    rw [hd]
    exact hL w hW _ _ _ (Gr.refl _) (h2 w hW)
  | f + 1, listed, a, w, hW, h => by
    rw [show f + 1 + 1 + g = (f + 1 + g) + 1 by omega]
    refine ⟨fun h0 => absurd h0 h.1, fun i hi => ?_⟩
    rcases h.2 i hi with ⟨h1, h2⟩ | ⟨rfl, h2⟩
    · exact wpOp_of_qOp hW (fun a' w' hw' h' => madeG_wp hn hd hw hz hL f _ a' w' hw' h') h2
    · unfold wpOp
      simp only [hn, hw, if_true]
      refine .inl ?_
      unfold Oper.wp
      rw [hz]
      simp only [Oper.upon]
      rw [hd]
      exact headAny_wp (fun listed a w' hw' h' => hL w hW listed a w' hw' h') (f + 1) _ _ _ (Gr.refl _) (h2 w hW)

theorem madeG_first {W : World} {o : Obj} {n m N i : Nat} {d : Option Tmp} {oa oi : Oper} {v : Value} {L : World → Array Bool → Act → Prop} (hna : ops[m]? = some oa) (hd : oa.dst = d) (hi : ops[i]? = some oi) (hsel : ∀ (j : Nat) (o : Oper) cs b, ops[j]? = some o → o.op ≠ .select cs b)
    (hs : Region.sinkB md ops N = true) (hc : Region.chainB md ops N = true) (hn : N < ops.size) (hin : i < n) (hnm : n ≤ m) (hmN : m < N) (hae : ∀ e ∈ oa.after, Region.binds md e = true → e.on ≠ i)
    (hdone : ∀ w0 listed a, L w0 listed a → ∀ j ∈ Region.ready md ops listed, N ≤ j) :
    ∀ (f : Nat) (listed : Array Bool) (a : Act), HeadInv md ops N listed → listed.getD m true = false →
      (∀ j oj, ops[j]? = some oj → j ≠ i → listed.getD j true = false → (∀ e ∈ oj.after, Region.binds md e = true → e.on ≠ i) → oi.apart ops oj = true) →
      i ∈ Region.ready md ops listed → YR P ops W oi v a →
      madeG P md ops W o n m N d L f (listed.setIfInBounds i true) (a.put oi.dst v) → madeG P md ops W o n m N d L (f + 1) listed a := by
  have alloc : ∀ (f : Nat) (listed : Array Bool) (a : Act) (w0 : World), Gr W w0 → HeadInv md ops N listed → listed.getD m true = false → m ∈ Region.ready md ops listed →
      (∀ j oj, ops[j]? = some oj → j ≠ i → listed.getD j true = false → (∀ e ∈ oj.after, Region.binds md e = true → e.on ≠ i) → oi.apart ops oj = true) →
      i ∈ Region.ready md ops listed → YR P ops W oi v a →
      headAny P md ops (fun w' => Gr (w0.alloc o) w') N (L w0) f ((listed.setIfInBounds i true).setIfInBounds m true) ((a.put oi.dst v).put d (.pointer (some ⟨w0.heap.size, 0, none⟩))) →
      headAny P md ops (fun w' => Gr (w0.alloc o) w') N (L w0) (f + 1) (listed.setIfInBounds m true) (a.put d (.pointer (some ⟨w0.heap.size, 0, none⟩))) := by
    intro f listed a w0 hw0 inv hun hrn hfree hr hy H
    have hap := hfree m oa hna (by omega) hun hae
    obtain ⟨h1, h2, h3⟩ := Oper.apart_spec hap
    refine headAny_first (v := v) hi hsel hs hc hn (by omega) (hdone w0) f (listed.setIfInBounds m true) _ (inv.set hrn (by omega)) (fun j oj hoj hji hjun hno => ?_) (ready_mono hr (by omega)) ?_ ?_
    · refine hfree j oj hoj hji ?_ hno
      by_cases hjn : m = j
      · subst hjn; exact hun
      · rw [getD_set_ne true hjn] at hjun; exact hjun
    · have hk := (hy.keep (u := .pointer (some ⟨w0.heap.size, 0, none⟩)) (fun cs b => hsel i oi cs b hi) h3)
      rw [hd] at hk
      exact hk.yields (hw0.alloc o)
    · rw [Array.setIfInBounds_comm _ _ (show i ≠ m by omega)] at H
      rw [← hd] at H ⊢
      rw [Act.put_comm a v _ h2] at H
      exact H
  intro f
  induction f with
  | zero =>
    intro listed a inv hnun hfree hr hy H
    refine ⟨fun h => (by rw [h] at hr; cases hr), fun j hj => ?_⟩
    by_cases hji : j = i
    · subst hji; exact .inl ⟨hin, (hy.yields (Gr.refl W)).qOp hi H⟩
    · have h1 := H.2 j (ready_mono hj hji)
      obtain ⟨rfl, h2⟩ := h1
      exact .inr ⟨rfl, fun w0 hw0 => alloc 0 listed a w0 hw0 inv hnun hj hfree hr hy (h2 w0 hw0)⟩
  | succ f ih =>
    intro listed a inv hnun hfree hr hy H
    refine ⟨fun h => (by rw [h] at hr; cases hr), fun j hj => ?_⟩
    by_cases hji : j = i
    · subst hji; exact .inl ⟨hin, (hy.yields (Gr.refl W)).qOp hi H⟩
    · rcases H.2 j (ready_mono hj hji) with ⟨h0, h1⟩ | ⟨rfl, h2⟩
      · obtain ⟨hjun, oj, hoj, hall⟩ := mem_ready.1 hj
        have hnot : ∀ e ∈ oj.after, Region.binds md e = true → e.on ≠ i := fun e he hb heq => by
          have h1 := hall e he hb
          rw [heq, getD_both (mem_ready.1 hr).1] at h1
          cases h1
        have hap := hfree j oj hoj hji hjun hnot
        obtain ⟨k1, k2, k3⟩ := Oper.apart_spec hap
        have h2 := qOp_put2 hoj hap (fun cs b => hsel j oj cs b hoj) h1
        have hfree' : ∀ k ok, ops[k]? = some ok → k ≠ i → (listed.setIfInBounds j true).getD k true = false →
            (∀ e ∈ ok.after, Region.binds md e = true → e.on ≠ i) → oi.apart ops ok = true := fun k ok hk hki hun' hno => by
          refine hfree k ok hk hki ?_ hno
          by_cases hjk : j = k
          · subst hjk; exact hjun
          · rw [getD_set_ne true hjk] at hun'; exact hun'
        refine .inl ⟨h0, qOp_mono (fun a' h3 => ?_) h2⟩
        obtain ⟨⟨u, rfl⟩, h4⟩ := h3
        refine ih (listed.setIfInBounds j true) _ (inv.set hj (by omega)) (by rw [getD_set_ne true (by omega)]; exact hnun) hfree' (ready_mono hr (Ne.symm hji)) (hy.keep (fun cs b => hsel i oi cs b hi) k3) ?_
        rw [Array.setIfInBounds_comm _ _ hji]
        exact h4
      · exact .inr ⟨rfl, fun w0 hw0 => alloc (f + 1) listed a w0 hw0 inv hnun hj hfree hr hy (h2 w0 hw0)⟩

/-- two variables are still to be made -/
def made2 (P : Program) (md : Region.Mode) (ops : Array Oper) (W : World) (o1 o2 : Obj) (n : Nat) (d1 d2 : Option Tmp) (L1 L2 : World → World → Array Bool → Act → Prop) : Nat → Array Bool → Act → Prop
  | 0, listed, a => Region.ready md ops listed ≠ [] ∧ ∀ i ∈ Region.ready md ops listed,
      (i = n ∧ ∀ w0, Gr W w0 → madeG P md ops (w0.alloc o1) o2 n (n + 1) (n + 2) d2 (L1 w0) 0 (listed.setIfInBounds n true) (a.put d1 (.pointer (some ⟨w0.heap.size, 0, none⟩)))) ∨
      (i = n + 1 ∧ ∀ w0, Gr W w0 → madeG P md ops (w0.alloc o2) o1 n n (n + 2) d1 (L2 w0) 0 (listed.setIfInBounds (n + 1) true) (a.put d2 (.pointer (some ⟨w0.heap.size, 0, none⟩))))
  | f + 1, listed, a => Region.ready md ops listed ≠ [] ∧ ∀ i ∈ Region.ready md ops listed,
      (i < n ∧ qOp P ops (fun w' => Gr W w') i (made2 P md ops W o1 o2 n d1 d2 L1 L2 f (listed.setIfInBounds i true)) a) ∨
      (i = n ∧ ∀ w0, Gr W w0 → madeG P md ops (w0.alloc o1) o2 n (n + 1) (n + 2) d2 (L1 w0) (f + 1) (listed.setIfInBounds n true) (a.put d1 (.pointer (some ⟨w0.heap.size, 0, none⟩)))) ∨
      (i = n + 1 ∧ ∀ w0, Gr W w0 → madeG P md ops (w0.alloc o2) o1 n n (n + 2) d1 (L2 w0) (f + 1) (listed.setIfInBounds (n + 1) true) (a.put d2 (.pointer (some ⟨w0.heap.size, 0, none⟩))))
theorem made2_wp {W : World} {o1 o2 : Obj} {n g : Nat} {d1 d2 : Option Tmp} {oa ob : Oper} {L1 L2 : World → World → Array Bool → Act → Prop} {Q' : Exit → Act → World → Prop} (hna : ops[n]? = some oa) (hnb : ops[n + 1]? = some ob) (hda : oa.dst = d1) (hdb : ob.dst = d2)
    (hwa : ∀ a : Act, Region.wanted oa (yielded ops a.tmps) = true) (hwb : ∀ a : Act, Region.wanted ob (yielded ops a.tmps) = true)
    (hza : ∀ (a : Act) (w : World), (execOp a.eval oa).run P w = .ok (.value (.pointer (some ⟨w.heap.size, 0, none⟩))) (w.alloc o1))
    (hzb : ∀ (a : Act) (w : World), (execOp a.eval ob).run P w = .ok (.value (.pointer (some ⟨w.heap.size, 0, none⟩))) (w.alloc o2))
    (hL1 : ∀ w0, Gr W w0 → ∀ w1, Gr (w0.alloc o1) w1 → ∀ listed a w, Gr (w1.alloc o2) w → L1 w0 w1 listed a → wpAny P md ops Q' g listed a w)
    (hL2 : ∀ w0, Gr W w0 → ∀ w1, Gr (w0.alloc o2) w1 → ∀ listed a w, Gr (w1.alloc o1) w → L2 w0 w1 listed a → wpAny P md ops Q' g listed a w) :
    ∀ (f : Nat) (listed : Array Bool) (a : Act) (w : World), Gr W w → made2 P md ops W o1 o2 n d1 d2 L1 L2 f listed a → wpAny P md ops Q' (f + 2 + g) listed a w := by
  intro f
  induction f with
  | zero =>
    intro listed a w hW h
    rw [show 0 + 2 + g = (0 + 1 + g) + 1 by omega]
    refine ⟨fun h0 => absurd h0 h.1, fun i hi => ?_⟩
    rcases h.2 i hi with ⟨rfl, h2⟩ | ⟨rfl, h2⟩
    · unfold wpOp
      simp only [hna, hwa, if_true]
      refine .inl ?_
      unfold Oper.wp
      rw [hza]
      simp only [Oper.upon]
      rw [hda]
      exact madeG_wp hnb hdb hwb hzb (hL1 w hW) 0 _ _ _ (Gr.refl _) (h2 w hW)
    · unfold wpOp
      simp only [hnb, hwb, if_true]
      refine .inl ?_
      unfold Oper.wp
      rw [hzb]
      simp only [Oper.upon]
      rw [hdb]
      exact madeG_wp hna hda hwa hza (hL2 w hW) 0 _ _ _ (Gr.refl _) (h2 w hW)
  | succ f ih =>
    intro listed a w hW h
    rw [show f + 1 + 2 + g = (f + 2 + g) + 1 by omega]
    refine ⟨fun h0 => absurd h0 h.1, fun i hi => ?_⟩
    rcases h.2 i hi with ⟨h1, h2⟩ | ⟨rfl, h2⟩ | ⟨rfl, h2⟩
    · exact wpOp_of_qOp hW (fun a' w' hw' h' => ih _ a' w' hw' h') h2
    · unfold wpOp
      simp only [hna, hwa, if_true]
      refine .inl ?_
      unfold Oper.wp
      rw [hza]
      simp only [Oper.upon]
      rw [hda, show f + 2 + g = (f + 1) + 1 + g by omega]
      exact madeG_wp hnb hdb hwb hzb (hL1 w hW) (f + 1) _ _ _ (Gr.refl _) (h2 w hW)
    · unfold wpOp
      simp only [hnb, hwb, if_true]
      refine .inl ?_
      unfold Oper.wp
      rw [hzb]
      simp only [Oper.upon]
      rw [hdb, show f + 2 + g = (f + 1) + 1 + g by omega]
      exact madeG_wp hna hda hwa hza (hL2 w hW) (f + 1) _ _ _ (Gr.refl _) (h2 w hW)

theorem made2_first {W : World} {o1 o2 : Obj} {n i : Nat} {d1 d2 : Option Tmp} {oa ob oi : Oper} {v : Value} {L1 L2 : World → World → Array Bool → Act → Prop} (hna : ops[n]? = some oa) (hnb : ops[n + 1]? = some ob) (hda : oa.dst = d1) (hdb : ob.dst = d2) (hi : ops[i]? = some oi) (hsel : ∀ (j : Nat) (o : Oper) cs b, ops[j]? = some o → o.op ≠ .select cs b)
    (hs : Region.sinkB md ops (n + 2) = true) (hc : Region.chainB md ops (n + 2) = true) (hn : n + 2 < ops.size) (hin : i < n) (haa : oa.after = #[]) (hab : ob.after = #[])
    (hdone1 : ∀ w0 w1 listed a, L1 w0 w1 listed a → ∀ j ∈ Region.ready md ops listed, n + 2 ≤ j) (hdone2 : ∀ w0 w1 listed a, L2 w0 w1 listed a → ∀ j ∈ Region.ready md ops listed, n + 2 ≤ j) :
    ∀ (f : Nat) (listed : Array Bool) (a : Act), HeadInv md ops (n + 2) listed → listed.getD n true = false → listed.getD (n + 1) true = false →
      (∀ j oj, ops[j]? = some oj → j ≠ i → listed.getD j true = false → (∀ e ∈ oj.after, Region.binds md e = true → e.on ≠ i) → oi.apart ops oj = true) →
      i ∈ Region.ready md ops listed → YR P ops W oi v a →
      made2 P md ops W o1 o2 n d1 d2 L1 L2 f (listed.setIfInBounds i true) (a.put oi.dst v) → made2 P md ops W o1 o2 n d1 d2 L1 L2 (f + 1) listed a := by
  have free' : ∀ (listed : Array Bool) (m : Nat), listed.getD m true = false →
      (∀ j oj, ops[j]? = some oj → j ≠ i → listed.getD j true = false → (∀ e ∈ oj.after, Region.binds md e = true → e.on ≠ i) → oi.apart ops oj = true) →
      ∀ j oj, ops[j]? = some oj → j ≠ i → (listed.setIfInBounds m true).getD j true = false → (∀ e ∈ oj.after, Region.binds md e = true → e.on ≠ i) → oi.apart ops oj = true := by
    intro listed m hm hfree j oj hoj hji hjun hno
    refine hfree j oj hoj hji ?_ hno
    by_cases hjn : m = j
    · subst hjn; exact hm
    · rw [getD_set_ne true hjn] at hjun; exact hjun
  have gA : ∀ (f : Nat) (listed : Array Bool) (a : Act) (w0 : World), Gr W w0 → HeadInv md ops (n + 2) listed → listed.getD n true = false → listed.getD (n + 1) true = false → n ∈ Region.ready md ops listed →
      (∀ j oj, ops[j]? = some oj → j ≠ i → listed.getD j true = false → (∀ e ∈ oj.after, Region.binds md e = true → e.on ≠ i) → oi.apart ops oj = true) →
      i ∈ Region.ready md ops listed → YR P ops W oi v a →
      madeG P md ops (w0.alloc o1) o2 n (n + 1) (n + 2) d2 (L1 w0) f ((listed.setIfInBounds i true).setIfInBounds n true) ((a.put oi.dst v).put d1 (.pointer (some ⟨w0.heap.size, 0, none⟩))) →
      madeG P md ops (w0.alloc o1) o2 n (n + 1) (n + 2) d2 (L1 w0) (f + 1) (listed.setIfInBounds n true) (a.put d1 (.pointer (some ⟨w0.heap.size, 0, none⟩))) := by
    intro f listed a w0 hw0 inv hu1 hu2 hrn hfree hr hy H
    have hap := hfree n oa hna (by omega) hu1 (by rw [haa]; simp)
    obtain ⟨h1, h2, h3⟩ := Oper.apart_spec hap
    refine madeG_first (v := v) hnb hdb hi hsel hs hc hn hin (by omega) (by omega) (by rw [hab]; simp) (hdone1 w0) f (listed.setIfInBounds n true) _ (inv.set hrn (by omega)) (by rw [getD_set_ne true (by omega)]; exact hu2) (free' listed n hu1 hfree) (ready_mono hr (by omega)) ?_ ?_
    · have hk := (hy.keep (u := .pointer (some ⟨w0.heap.size, 0, none⟩)) (fun cs b => hsel i oi cs b hi) h3)
      rw [hda] at hk
      exact hk.mono (hw0.alloc o1)
    · rw [Array.setIfInBounds_comm _ _ (show i ≠ n by omega)] at H
      rw [← hda] at H ⊢
      rw [Act.put_comm a v _ h2] at H
      exact H
  have gB : ∀ (f : Nat) (listed : Array Bool) (a : Act) (w0 : World), Gr W w0 → HeadInv md ops (n + 2) listed → listed.getD n true = false → listed.getD (n + 1) true = false → n + 1 ∈ Region.ready md ops listed →
      (∀ j oj, ops[j]? = some oj → j ≠ i → listed.getD j true = false → (∀ e ∈ oj.after, Region.binds md e = true → e.on ≠ i) → oi.apart ops oj = true) →
      i ∈ Region.ready md ops listed → YR P ops W oi v a →
      madeG P md ops (w0.alloc o2) o1 n n (n + 2) d1 (L2 w0) f ((listed.setIfInBounds i true).setIfInBounds (n + 1) true) ((a.put oi.dst v).put d2 (.pointer (some ⟨w0.heap.size, 0, none⟩))) →
      madeG P md ops (w0.alloc o2) o1 n n (n + 2) d1 (L2 w0) (f + 1) (listed.setIfInBounds (n + 1) true) (a.put d2 (.pointer (some ⟨w0.heap.size, 0, none⟩))) := by
    intro f listed a w0 hw0 inv hu1 hu2 hrn hfree hr hy H
    have hap := hfree (n + 1) ob hnb (by omega) hu2 (by rw [hab]; simp)
    obtain ⟨h1, h2, h3⟩ := Oper.apart_spec hap
    refine madeG_first (v := v) hna hda hi hsel hs hc hn hin (by omega) (by omega) (by rw [haa]; simp) (hdone2 w0) f (listed.setIfInBounds (n + 1) true) _ (inv.set hrn (by omega)) (by rw [getD_set_ne true (by omega)]; exact hu1) (free' listed (n + 1) hu2 hfree) (ready_mono hr (by omega)) ?_ ?_
    · have hk := (hy.keep (u := .pointer (some ⟨w0.heap.size, 0, none⟩)) (fun cs b => hsel i oi cs b hi) h3)
      rw [hdb] at hk
      exact hk.mono (hw0.alloc o2)
    · rw [Array.setIfInBounds_comm _ _ (show i ≠ n + 1 by omega)] at H
      rw [← hdb] at H ⊢
      rw [Act.put_comm a v _ h2] at H
      exact H
  intro f
  induction f with
  | zero =>
    intro listed a inv hu1 hu2 hfree hr hy H
    refine ⟨fun h => (by rw [h] at hr; cases hr), fun j hj => ?_⟩
    by_cases hji : j = i
    · subst hji; exact .inl ⟨hin, (hy.yields (Gr.refl W)).qOp hi H⟩
    · rcases H.2 j (ready_mono hj hji) with ⟨rfl, h2⟩ | ⟨rfl, h2⟩
      · exact .inr (.inl ⟨rfl, fun w0 hw0 => gA 0 listed a w0 hw0 inv hu1 hu2 hj hfree hr hy (h2 w0 hw0)⟩)
      · exact .inr (.inr ⟨rfl, fun w0 hw0 => gB 0 listed a w0 hw0 inv hu1 hu2 hj hfree hr hy (h2 w0 hw0)⟩)
  | succ f ih =>
    intro listed a inv hu1 hu2 hfree hr hy H
    refine ⟨fun h => (by rw [h] at hr; cases hr), fun j hj => ?_⟩
    by_cases hji : j = i
    · subst hji; exact .inl ⟨hin, (hy.yields (Gr.refl W)).qOp hi H⟩
    · rcases H.2 j (ready_mono hj hji) with ⟨h0, h1⟩ | ⟨rfl, h2⟩ | ⟨rfl, h2⟩
      · obtain ⟨hjun, oj, hoj, hall⟩ := mem_ready.1 hj
        have hnot : ∀ e ∈ oj.after, Region.binds md e = true → e.on ≠ i := fun e he hb heq => by
          have h1 := hall e he hb
          rw [heq, getD_both (mem_ready.1 hr).1] at h1
          cases h1
        have hap := hfree j oj hoj hji hjun hnot
        obtain ⟨k1, k2, k3⟩ := Oper.apart_spec hap
        have h2 := qOp_put2 hoj hap (fun cs b => hsel j oj cs b hoj) h1
        refine .inl ⟨h0, qOp_mono (fun a' h3 => ?_) h2⟩
        obtain ⟨⟨u, rfl⟩, h4⟩ := h3
        refine ih (listed.setIfInBounds j true) _ (inv.set hj (by omega)) (by rw [getD_set_ne true (by omega)]; exact hu1) (by rw [getD_set_ne true (by omega)]; exact hu2) (free' listed j hjun hfree) (ready_mono hr (Ne.symm hji)) (hy.keep (fun cs b => hsel i oi cs b hi) k3) ?_
        rw [Array.setIfInBounds_comm _ _ hji]
        exact h4
      · exact .inr (.inl ⟨rfl, fun w0 hw0 => gA (f + 1) listed a w0 hw0 inv hu1 hu2 hj hfree hr hy (h2 w0 hw0)⟩)
      · exact .inr (.inr ⟨rfl, fun w0 hw0 => gB (f + 1) listed a w0 hw0 inv hu1 hu2 hj hfree hr hy (h2 w0 hw0)⟩)

/-- the check of the text's order: the heads, then the two variables, then the tail -/
def lexMade2 (md : Region.Mode) (ops : Array Oper) (g n : Nat) : Nat → Nat → Array Bool → Bool
  | 0, k, listed => decide (Region.ready md ops listed = [n, n + 1]) && decide (Region.ready md ops (listed.setIfInBounds n true) = [n + 1]) && decide (Region.ready md ops (listed.setIfInBounds (n + 1) true) = [n]) &&
      Region.seqB md ops g (n + 2) ((listed.setIfInBounds n true).setIfInBounds (n + 1) true) && Region.seqB md ops g (n + 2) ((listed.setIfInBounds (n + 1) true).setIfInBounds n true)
  | f + 1, k, listed => (Region.ready md ops listed).contains k && Region.free md ops listed k && lexMade2 md ops g n f (k + 1) (listed.setIfInBounds k true)
def lexMade2B (md : Region.Mode) (ops : Array Oper) (n : Nat) : Bool :=
  Region.noSelect ops && decide (n + 2 < ops.size) && Region.sinkB md ops (n + 2) && Region.chainB md ops (n + 2) && noAfter ops n && noAfter ops (n + 1) && lexMade2 md ops (ops.size - (n + 2)) n n 0 (Array.replicate ops.size false)

theorem made2_lex {W : World} {o1 o2 : Obj} {n g : Nat} {d1 d2 : Option Tmp} {oa ob : Oper} (hna : ops[n]? = some oa) (hnb : ops[n + 1]? = some ob) (hda : oa.dst = d1) (hdb : ob.dst = d2) (hsel : Region.noSelect ops = true) (hs : Region.sinkB md ops (n + 2) = true) (hc : Region.chainB md ops (n + 2) = true) (hn : n + 2 < ops.size) (haa : oa.after = #[]) (hab : ob.after = #[])
    (F1 F2 : World → World → Act → Prop) :
    ∀ (l : List Oper) (k : Nat) (listed : Array Bool) (a : Act), (∀ j, j < l.length → l[j]? = ops[k + j]?) → k + l.length = n → HeadInv md ops (n + 2) listed → listed.getD n true = false → listed.getD (n + 1) true = false →
    lexMade2 md ops g n l.length k listed = true →
    wpQuietR P ops W (fun a' => (∀ w0, Gr W w0 → ∀ w1, Gr (w0.alloc o1) w1 → F1 w0 w1 ((a'.put d1 (.pointer (some ⟨w0.heap.size, 0, none⟩))).put d2 (.pointer (some ⟨w1.heap.size, 0, none⟩)))) ∧
      (∀ w0, Gr W w0 → ∀ w1, Gr (w0.alloc o2) w1 → F2 w0 w1 ((a'.put d2 (.pointer (some ⟨w0.heap.size, 0, none⟩))).put d1 (.pointer (some ⟨w1.heap.size, 0, none⟩))))) l a →
    made2 P md ops W o1 o2 n d1 d2 (fun w0 w1 listed' a' => Region.seqB md ops g (n + 2) listed' = true ∧ F1 w0 w1 a') (fun w0 w1 listed' a' => Region.seqB md ops g (n + 2) listed' = true ∧ F2 w0 w1 a') l.length listed a
  | [], k, listed, a, _, hk, _, _, _, hB, h => by
    simp only [List.length_nil, lexMade2, Bool.and_eq_true, decide_eq_true_eq] at hB
    obtain ⟨⟨⟨⟨b1, b2⟩, b3⟩, b4⟩, b5⟩ := hB
    refine ⟨by rw [b1]; simp, fun i hi => ?_⟩
    rw [b1] at hi
    simp at hi
    rcases hi with rfl | rfl
    · refine .inl ⟨rfl, fun w0 hw0 => ⟨by rw [b2]; simp, fun j hj => ?_⟩⟩
      rw [b2] at hj
      exact ⟨by simpa using hj, fun w1 hw1 => ⟨b4, h.1 w0 hw0 w1 hw1⟩⟩
    · refine .inr ⟨rfl, fun w0 hw0 => ⟨by rw [b3]; simp, fun j hj => ?_⟩⟩
      rw [b3] at hj
      exact ⟨by simpa using hj, fun w1 hw1 => ⟨b5, h.2 w0 hw0 w1 hw1⟩⟩
  | o :: l, k, listed, a, hl, hk, inv, hu1, hu2, hB, h => by
    have h0 : ops[k]? = some o := by simpa using (hl 0 (by simp)).symm
    simp only [List.length_cons, lexMade2, Bool.and_eq_true] at hB
    obtain ⟨⟨hr, hf⟩, hB'⟩ := hB
    have hkn : k < n := by simp only [List.length_cons] at hk; omega
    have hr' : k ∈ Region.ready md ops listed := by simpa using hr
    obtain ⟨v, hy, hK⟩ := h
    exact made2_first hna hnb hda hdb h0 (Region.noSelect_spec hsel) hs hc hn hkn haa hab (fun w0 w1 listed' a' hL => seqB_ready hL.1) (fun w0 w1 listed' a' hL => seqB_ready hL.1) l.length listed a inv hu1 hu2 (Region.free_spec h0 hf) hr' hy
      (made2_lex hna hnb hda hdb hsel hs hc hn haa hab F1 F2 l (k + 1) _ _ (fun j hj => by have := hl (j + 1) (by simp; omega); simpa [Nat.add_assoc, Nat.add_comm 1 j] using this) (by simp only [List.length_cons] at hk; omega) (inv.set hr' (by omega)) (by rw [getD_set_ne true (by omega)]; exact hu1) (by rw [getD_set_ne true (by omega)]; exact hu2) hB' hK)

theorem wpQuietR_mono {W : World} (Q1 Q2 : Act → Prop) (hq : ∀ a, Q1 a → Q2 a) : ∀ (k : List Oper) (a : Act), wpQuietR P ops W Q1 k a → wpQuietR P ops W Q2 k a
  | [], a, h => hq _ h
  | o :: k, a, ⟨v, h1, h2⟩ => ⟨v, h1, wpQuietR_mono Q1 Q2 hq k _ h2⟩
theorem noAfter_out {n : Nat} {o : Oper} (h : noAfter ops n = true) (ho : ops[n]? = some o) : o.after = #[] := by
  unfold noAfter at h
  rw [ho] at h
  exact Array.isEmpty_iff.1 h

theorem wp_region_made1 {id : Nat} {Q : Exit → Act → World → Prop} {a : Act} {W : World} {l : List Oper} (n : Nat) (o : Obj) (oa : Oper) (hm : P.follows .mixedOrders = true) (hB : lexMadeB .any l.toArray n = true) (hna : l.toArray[n]? = some oa) (hg : oa.guard = none)
    (hz : ∀ (a : Act) (w : World), (execOp a.eval oa).run P w = .ok (.value (.pointer (some ⟨w.heap.size, 0, none⟩))) (w.alloc o))
    (h : ∀ B, Gr W B → (∀ (x : GW B) (b o : Nat), b < W.heap.size → x.w.cell? ⟨b, o, none⟩ = W.cell? ⟨b, o, none⟩) → (∀ (x : GW B) (b o : Nat), b < W.heap.size → x.w.frozen? ⟨b, o, none⟩ = W.frozen? ⟨b, o, none⟩) →
      wpQuiet P l.toArray (fun w' => ∃ x : GW B, w' = x.w) (fun a' => ∀ g w', Gr W w' → W.heap.size ≤ g → w'.heap[g]? = some o → wpList P l.toArray Q (l.drop (n + 1)) (a'.put oa.dst (.pointer (some ⟨g, 0, none⟩))) w') (l.take n) a) : (Code.region id l.toArray true).wp P Q a W := by
  refine wp_region_gr_made n o oa hm hB hna hg hz (fun B hB h1 h2 => ?_)
  have mono : ∀ (C : World → Prop) (Q1 Q2 : Act → Prop), (∀ a, Q1 a → Q2 a) → ∀ (k : List Oper) (a : Act), wpQuiet P l.toArray C Q1 k a → wpQuiet P l.toArray C Q2 k a := by
    intro C Q1 Q2 hq k
    induction k with
    | nil => intro a h; exact hq _ h
    | cons o1 k ih =>
      intro a h
      unfold wpQuiet at h ⊢
      split
      · rename_i hw; simp only [hw, if_true] at h; obtain ⟨v, h1, h2⟩ := h; exact ⟨v, h1, ih _ h2⟩
      · rename_i hw; simp only [hw, Bool.false_eq_true, if_false] at h; exact ih _ h
  exact mono _ _ _ (fun a' hq w0 hw0 hBe w' hw' => hq w0.heap.size w' ((hw0.alloc o).trans hw') hw0.size (block_gr hw' (heap_alloc_new w0 o))) _ _ (h B hB h1 h2)

theorem wp_region_made2 {id : Nat} {Q : Exit → Act → World → Prop} {a : Act} {W : World} {l : List Oper} (n : Nat) (o1 o2 : Obj) (oa ob : Oper) (hm : P.follows .mixedOrders = true) (hB : lexMade2B .any l.toArray n = true) (hna : l.toArray[n]? = some oa) (hnb : l.toArray[n + 1]? = some ob) (hga : oa.guard = none) (hgb : ob.guard = none)
    (hdd : ∀ d, oa.dst = some d → ob.dst ≠ some d)
    (hza : ∀ (a : Act) (w : World), (execOp a.eval oa).run P w = .ok (.value (.pointer (some ⟨w.heap.size, 0, none⟩))) (w.alloc o1))
    (hzb : ∀ (a : Act) (w : World), (execOp a.eval ob).run P w = .ok (.value (.pointer (some ⟨w.heap.size, 0, none⟩))) (w.alloc o2))
    (h : ∀ B, Gr W B → (∀ (x : GW B) (b o : Nat), b < W.heap.size → x.w.cell? ⟨b, o, none⟩ = W.cell? ⟨b, o, none⟩) → (∀ (x : GW B) (b o : Nat), b < W.heap.size → x.w.frozen? ⟨b, o, none⟩ = W.frozen? ⟨b, o, none⟩) →
      wpQuiet P l.toArray (fun w' => ∃ x : GW B, w' = x.w) (fun a' => ∀ g1 g2 w', Gr W w' → W.heap.size ≤ g1 → W.heap.size ≤ g2 → g1 ≠ g2 → w'.heap[g1]? = some o1 → w'.heap[g2]? = some o2 → wpList P l.toArray Q (l.drop (n + 2)) ((a'.put oa.dst (.pointer (some ⟨g1, 0, none⟩))).put ob.dst (.pointer (some ⟨g2, 0, none⟩))) w') (l.take n) a) : (Code.region id l.toArray true).wp P Q a W := by
  simp only [lexMade2B, Bool.and_eq_true, decide_eq_true_eq] at hB
  obtain ⟨⟨⟨⟨⟨⟨hsel, hn⟩, hs⟩, hc⟩, haa⟩, hab⟩, hlex⟩ := hB
  have hn' : n + 2 < l.length := by simpa using hn
  have htl : (l.take n).length = n := by simp; omega
  have hdl : (l.drop (n + 2)).length = l.toArray.size - (n + 2) := by simp
  have haa' := noAfter_out haa hna
  have hab' := noAfter_out hab hnb
  have wa : ∀ a : Act, Region.wanted oa (yielded l.toArray a.tmps) = true := fun a => by unfold Region.wanted; rw [hga]
  have wb : ∀ a : Act, Region.wanted ob (yielded l.toArray a.tmps) = true := fun a => by unfold Region.wanted; rw [hgb]
  have inv0 : HeadInv .any l.toArray (n + 2) (Array.replicate l.toArray.size false) :=
    ⟨by simp, fun j oj _ hl => (by rw [getD_replicate_false] at hl; cases hl), fun t _ ht => getD_in (by simpa using ht) (getD_replicate_false _ _)⟩
  have hR := rel_of (P := P) (ops := l.toArray) (W := W) (l.take n) a (fun B hB => h B hB (fun x b o hb => (hB.trans x.h).cells.1 b o hb) (fun x b o hb => (hB.trans x.h).cells.2 b o hb))
  have hR2 : wpQuietR P l.toArray W (fun a' => (∀ w0, Gr W w0 → ∀ w1, Gr (w0.alloc o1) w1 → (fun (w0 w1 : World) (a2 : Act) => ∀ w', Gr (w1.alloc o2) w' → wpList P l.toArray Q (l.drop (n + 2)) a2 w') w0 w1 ((a'.put oa.dst (.pointer (some ⟨w0.heap.size, 0, none⟩))).put ob.dst (.pointer (some ⟨w1.heap.size, 0, none⟩)))) ∧
      (∀ w0, Gr W w0 → ∀ w1, Gr (w0.alloc o2) w1 → (fun (w0 w1 : World) (a2 : Act) => ∀ w', Gr (w1.alloc o1) w' → wpList P l.toArray Q (l.drop (n + 2)) a2 w') w0 w1 ((a'.put ob.dst (.pointer (some ⟨w0.heap.size, 0, none⟩))).put oa.dst (.pointer (some ⟨w1.heap.size, 0, none⟩))))) (l.take n) a := by
    refine wpQuietR_mono _ _ (fun a' h0 => ⟨fun w0 hw0 w1 hw1 w' hw' => ?_, fun w0 hw0 w1 hw1 w' hw' => ?_⟩) _ _ hR
    · have hz1 := hw0.size
      have hz2 := hw1.size
      simp at hz2
      exact h0 W (Gr.refl W) w0.heap.size w1.heap.size w' ((((hw0.alloc o1).trans hw1).alloc o2).trans hw') hz1 (by omega) (by omega) (block_gr ((hw1.alloc o2).trans hw') (heap_alloc_new w0 o1)) (block_gr hw' (heap_alloc_new w1 o2))
    · have hz1 := hw0.size
      have hz2 := hw1.size
      simp at hz2
      have := h0 W (Gr.refl W) w1.heap.size w0.heap.size w' ((((hw0.alloc o2).trans hw1).alloc o1).trans hw') (by omega) hz1 (by omega) (block_gr hw' (heap_alloc_new w1 o1)) (block_gr ((hw1.alloc o1).trans hw') (heap_alloc_new w0 o2))
      rw [Act.put_comm a' _ _ hdd] at this
      exact this
  have H := made2_lex (P := P) (W := W) (md := .any) (g := l.toArray.size - (n + 2)) (o1 := o1) (o2 := o2) hna hnb rfl rfl hsel hs hc hn haa' hab' (fun (w0 w1 : World) (a2 : Act) => ∀ w', Gr (w1.alloc o2) w' → wpList P l.toArray Q (l.drop (n + 2)) a2 w') (fun (w0 w1 : World) (a2 : Act) => ∀ w', Gr (w1.alloc o1) w' → wpList P l.toArray Q (l.drop (n + 2)) a2 w') (l.take n) 0 _ a (fun j hj => by
    have hj' : j < n := by rw [htl] at hj; exact hj
    simp [hj']) (by simpa using htl) inv0 (getD_in (by simp at hn ⊢; omega) (getD_replicate_false _ _)) (getD_in (by simp at hn ⊢; omega) (getD_replicate_false _ _)) (by rw [htl]; exact hlex) hR2
  refine wp_region_any hm ?_
  have := made2_wp (Q' := Q) (g := l.toArray.size - (n + 2)) (W := W) hna hnb rfl rfl wa wb hza hzb
    (fun w0 hw0 w1 hw1 listed a' w' hw' hL => by
      have := wpAny_of_seq (md := .any) (Q' := Q) (l.drop (n + 2)) (n + 2) listed a' w' (fun j => by simp [List.getElem?_drop]) (by rw [hdl]; exact hL.1) (hL.2 w' hw')
      rwa [hdl] at this)
    (fun w0 hw0 w1 hw1 listed a' w' hw' hL => by
      have := wpAny_of_seq (md := .any) (Q' := Q) (l.drop (n + 2)) (n + 2) listed a' w' (fun j => by simp [List.getElem?_drop]) (by rw [hdl]; exact hL.1) (hL.2 w' hw')
      rwa [hdl] at this) _ _ _ { W with drawn := W.drawn + 1 } ((Gr.refl W).drew) H
  rw [htl, show n + 2 + (l.toArray.size - (n + 2)) = l.toArray.size by omega] at this
  exact this
end
end Go.Proofs.YtclfiaemjdflbaaDoor
