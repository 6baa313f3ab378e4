/-
  A carrier in memory, and what its changes leave of the rest.
  Conditions: none.
-/
import Derived.Test.YthadhmhbbfjomaaGreatDoorWalkCq
import Derived.Test.YthadhmhbbfjomaaGreatDoorMathFw
namespace Go.Proofs.YthadhmhbbfjomaaGreatDoor
open Go.RowKit Go.Lib
set_option linter.unusedSimpArgs false
set_option linter.unusedVariables false

/-- lines of a valid caption -/
structure Vs (ss : List ByteArray) : Prop where
  l1 : 1 ≤ ss.length
  l4 : ss.length ≤ 4
  ok : ss.all vLine = true
theorem Vs.nl {ss : List ByteArray} (h : Vs ss) : ∀ s ∈ ss, (10 : UInt8) ∉ s.data.toList := fun s hs hm => by
  have h1 := List.all_eq_true.1 h.ok s hs
  unfold vLine at h1
  simp only [Bool.and_eq_true] at h1
  have h2 := List.all_eq_true.1 h1.2 _ hm
  revert h2
  decide
theorem Vs.key {ss : List ByteArray} {e : Int} (h : Vs ss) (h0 : 0 ≤ e) (h1 : e < 1000) : KeyOk e ss := ⟨h0, h1, (by intro q; have := h.l1; rw [q] at this; simp at this), h.nl⟩
theorem vline_len {s : ByteArray} (h : vLine s = true) : s.data.toList.length ≤ 64 := by
  unfold vLine at h
  simp only [Bool.and_eq_true, decide_eq_true_eq] at h
  have : s.size = s.data.toList.length := by rw [Array.length_toList]; rfl
  omega
theorem Vs.join {ss : List ByteArray} (h : Vs ss) : (join (ss.map (·.data.toList)) [10]).length ≤ 100000 := by
  obtain ⟨h1, h4, hk⟩ := h
  match ss, h1, h4, hk with
  | [a], _, _, hk =>
    simp only [List.all_cons, List.all_nil, Bool.and_true] at hk
    have := vline_len hk
    simp [Lib.join] at *; omega
  | [a, b], _, _, hk =>
    simp only [List.all_cons, List.all_nil, Bool.and_true, Bool.and_eq_true] at hk
    have := vline_len hk.1; have := vline_len hk.2
    simp [Lib.join] at *; omega
  | [a, b, c], _, _, hk =>
    simp only [List.all_cons, List.all_nil, Bool.and_true, Bool.and_eq_true] at hk
    have := vline_len hk.1; have := vline_len hk.2.1; have := vline_len hk.2.2
    simp [Lib.join] at *; omega
  | [a, b, c, d], _, _, hk =>
    simp only [List.all_cons, List.all_nil, Bool.and_true, Bool.and_eq_true] at hk
    have := vline_len hk.1; have := vline_len hk.2.1; have := vline_len hk.2.2.1; have := vline_len hk.2.2.2
    simp [Lib.join] at *; omega
  | _ :: _ :: _ :: _ :: _ :: l, _, h4, _ => simp at h4

/-- all blocks that are none of O stay as they are -/
structure Ex (O : Nat → Prop) (W w : World) : Prop where
  os : w.os = W.os
  tape : w.tape = W.tape
  output : w.output = W.output
  size : W.heap.size ≤ w.heap.size
  block : ∀ k, k < W.heap.size → ¬ O k → w.heap[k]? = W.heap[k]?
theorem Ex.trans {O O2 : Nat → Prop} {a b c : World} (h : Ex O a b) (h2 : Ex O2 b c) (ho : ∀ k, k < a.heap.size → O2 k → O k) : Ex O a c :=
  ⟨h2.os.trans h.os, h2.tape.trans h.tape, h2.output.trans h.output, Nat.le_trans h.size h2.size, fun k hk hn => (h2.block k (Nat.lt_of_lt_of_le hk h.size) (fun q => hn (ho k hk q))).trans (h.block k hk hn)⟩
theorem Ex.of {O : Nat → Prop} {W w : World} {r : Option Nat} (hg : W.grownBy w r) (ho : ∀ k, r = some k → O k) : Ex O W w :=
  ⟨hg.os, hg.tape, hg.output, hg.size, fun k hk hn => hg.block k hk (fun e => hn (ho k e.symm))⟩
theorem Gr.ex {O : Nat → Prop} {W w : World} (hg : Gr W w) : Ex O W w := Ex.of hg.by0 (fun k e => by cases e)
theorem Ex.gr {O : Nat → Prop} {a W w : World} (hg : Gr a W) (h : Ex O W w) (ho : ∀ k, k < a.heap.size → ¬ O k) : Gr a w :=
  Below.trans hg ⟨h.os, h.tape, h.output, h.size, fun k hk => h.block k (Nat.lt_of_lt_of_le hk hg.size) (ho k hk)⟩
theorem Ex.blk {O : Nat → Prop} {W w : World} {g : Nat} {T : TypeId} {vs : List Value} (h : Ex O W w) (hb : Blk W g T vs) (hn : ¬ O g) : Blk w g T vs := (h.block g hb.lt hn).trans hb
theorem blk_keep {W w : World} {g : Nat} {T : TypeId} {vs : List Value} (hb : Blk W g T vs) (h : w.heap[g]? = W.heap[g]?) : Blk w g T vs := h.trans hb
theorem MapO.isMap {w : World} {b n : Nat} {D : DataW Value} (h : MapO w b n D) : Maps.IsMap D := World.ownsMap.isMap h
theorem MapO.no {w : World} {b n : Nat} {D : DataW Value} (h : MapO w b n D) {T : TypeId} {cur : Array Value} {fz : Nat × Nat} : w.heap[b]? ≠ some (.cells cur T fz) := fun q => by
  obtain ⟨es, cl, hb, _⟩ := h
  rw [hb] at q
  cases q

/-- the captions of a carrier: its cell C, its map b -/
structure CarC (W : World) (C b base : Nat) (v : Value) (c : List Cu) : Prop where
  cel : Blk W C 65 [v, .map (some b)]
  lo : b < C ∧ C < base
  cues : CuesO base 57 W v c
  lns : ∀ x ∈ c, LnT W x.lv ∧ FitS x.lv ∧ Vs x.ss
theorem own_base {W : World} {base size n : Nat} {e : TypeId} {v : Value} {xs : List Value} (h : W.ownsRow base e size v n xs) {k : Nat} (hk : v.ownBlock = some k) : base ≤ k ∧ k < W.heap.size ∧ ∃ cur, W.heap[k]? = some (.cells cur e (0, 0)) := by
  rcases h.2 with ⟨rfl, _⟩ | ⟨g, cap, cur, rfl, hb, hg, _⟩
  · simp [Value.ownBlock] at hk
  · have hkg : g = k := by simpa [Value.ownBlock] using hk
    subst hkg
    exact ⟨hb, (Array.getElem?_eq_some_iff.1 hg).1, _, hg⟩
theorem CarC.gr {W w : World} {C b base : Nat} {v : Value} {c : List Cu} (hg : Gr W w) (h : CarC W C b base v c) : CarC w C b base v c :=
  ⟨h.cel.gr hg, h.lo, h.cues.gr hg, fun x hx => ⟨(h.lns x hx).1.gr hg, (h.lns x hx).2⟩⟩
/-- another block is written: its type is none of the carrier's, or it is no block of cells -/
theorem CarC.kept {W w : World} {C b base g : Nat} {v : Value} {c : List Cu} (h : CarC W C b base v c) (hg : W.grownBy w (some g)) (hC : g ≠ C)
    (hno : ∀ cur T fz, W.heap[g]? = some (.cells cur T fz) → T ≠ 57 ∧ T ≠ 9) : CarC w C b base v c := by
  have hv : v.ownBlock = none ∨ v.ownBlock ≠ some g := by
    refine .inr fun q => ?_
    obtain ⟨_, _, cur, hc⟩ := own_base h.cues.own q
    exact (hno _ _ _ hc).1 rfl
  have hl : ∀ x ∈ c, ∀ k, x.lv.ownBlock = some k → w.heap[k]? = W.heap[k]? := fun x hx k hk => hg.block k ((h.lns x hx).1.lt hk) (fun q => by
    injection q with q
    subst q
    obtain ⟨cur, fz, hc⟩ := (h.lns x hx).1 k hk
    exact (hno _ _ _ hc).2 rfl)
  refine ⟨blk_keep h.cel (hg.block C h.cel.lt (fun q => hC (by injection q with q; exact q.symm))), h.lo, ⟨h.cues.own.kept hg hv, fun x hx => ?_⟩, fun x hx => ⟨(h.lns x hx).1.keep (hl x hx), (h.lns x hx).2⟩⟩
  refine ⟨Rd.grown hg (.inr (.inl ?_)) (h.cues.lines x hx).1, fun k hk => ?_⟩
  · intro q
    obtain ⟨cur, fz, hc⟩ := (h.lns x hx).1 g q
    exact (hno _ _ _ hc).2 rfl
  · rcases (h.cues.lines x hx).2 k hk with h1 | ⟨c2, t2, f2, h2, hne⟩
    · exact .inl h1
    · exact .inr ⟨c2, t2, f2, (hl x hx k hk).trans h2, hne⟩
/-- the captions get one more -/
theorem CarC.app {W w : World} {C b base : Nat} {v v' : Value} {c : List Cu} {x : Cu} (h : CarC W C b base v c) (hs : StrsR W x.lv x.ss) (hl : LnT W x.lv) (hf : FitS x.lv) (hv : Vs x.ss)
    (ho : w.ownsRow base 57 3 v' (c.length + 1) (flat c ++ x.cells)) (hg : W.grownBy w v.ownBlock) :
    CarC (w.setCell ⟨C, 0, none⟩ v') C b base v' (c ++ [x]) := by
  have hCv : v.ownBlock ≠ some C := fun q => by have := (own_base h.cues.own q).1; have := h.lo; omega
  have hCv' : v'.ownBlock ≠ some C := fun q => by have := (own_base ho q).1; have := h.lo; omega
  have hcw : Blk w C 65 [v, .map (some b)] := h.cel.grown hg hCv
  have hfar : Far base 57 W x.lv := fun k hk => by
    obtain ⟨cur, fz, h1⟩ := hl k hk
    exact .inr ⟨cur, _, fz, h1, by decide⟩
  have hcu := h.cues.app x hs hfar ho hg
  have hln : ∀ y ∈ c ++ [x], LnT w y.lv ∧ FitS y.lv ∧ Vs y.ss := fun y hy => by
    rcases List.mem_append.1 hy with hy | hy
    · exact ⟨(h.lns y hy).1.grown h.cues.own (by decide) hg, (h.lns y hy).2⟩
    · rw [List.mem_singleton.1 hy]
      exact ⟨hl.grown h.cues.own (by decide) hg, hf, hv⟩
  have hlC : ∀ y ∈ c ++ [x], y.lv.ownBlock ≠ some C := fun y hy q => by
    obtain ⟨cur, fz, h1⟩ := (hln y hy).1 C q
    unfold Blk at hcw
    rw [hcw] at h1
    injection h1 with h1
    injection h1 with _ h1 _
    revert h1
    decide
  have hgs := grown_setCell w ⟨C, 0, none⟩ v'
  refine ⟨by have := hcw.set 0 v'; simpa using this, h.lo, ⟨hcu.own.kept hgs (.inr hCv'), fun y hy => ⟨Rd.grown hgs (.inr (.inl (hlC y hy))) (hcu.lines y hy).1, ?_⟩⟩, fun y hy => ⟨(hln y hy).1.setCell _ _ (hlC y hy), (hln y hy).2⟩⟩
  intro k hk
  rcases (hcu.lines y hy).2 k hk with h1 | ⟨c2, t2, f2, h2, hne⟩
  · exact .inl h1
  · exact .inr ⟨c2, t2, f2, (hgs.block k (Array.getElem?_eq_some_iff.1 h2).1 (fun q => hlC y hy (by rw [hk, q]))).trans h2, hne⟩
theorem flat_set (c : List Cu) (i : Nat) (hi : i < c.length) (t : Int) : (flat c).set (i * 3 + 1) (.int .i64 t) = flat (c.set i ⟨c[i].f, t, c[i].lv, c[i].ss⟩) := by
  induction c generalizing i with
  | nil => simp at hi
  | cons x c ih =>
    rw [show flat (x :: c) = x.cells ++ flat c from rfl]
    cases i with
    | zero => rfl
    | succ i =>
      have h := ih i (by simpa using hi)
      rw [List.set_cons_succ, show flat (x :: c.set i _) = x.cells ++ flat (c.set i _) from rfl]
      have hl : x.cells.length = 3 := rfl
      rw [List.set_append, if_neg (by omega), hl, show (i + 1) * 3 + 1 - 3 = i * 3 + 1 by omega, h]
      rfl
/-- a caption's end is written -/
theorem CarC.to {W : World} {C b base g cap i : Nat} {c : List Cu} (hi : i < c.length) (t : Int) (h : CarC W C b base (.slice (some ⟨g, 0, none⟩) c.length cap) c) :
    CarC (W.setCell ⟨g, i * 3 + 1, none⟩ (.int .i64 t)) C b base (.slice (some ⟨g, 0, none⟩) c.length cap) (c.set i ⟨c[i].f, t, c[i].lv, c[i].ss⟩) ∧ W.grownBy (W.setCell ⟨g, i * 3 + 1, none⟩ (.int .i64 t)) (some g) := by
  obtain ⟨hb, hlt, cur, hcg⟩ := own_base h.cues.own (k := g) rfl
  have hst := World.ownsRow.stored h.cues.own (i * 3 + 1) (.int .i64 t)
  have hgs := hst.2
  rw [flat_set c i hi t] at hst
  have hlC : ∀ y ∈ c, y.lv.ownBlock ≠ some g := fun y hy q => by
    obtain ⟨c2, fz, h1⟩ := (h.lns y hy).1 g q
    rw [hcg] at h1
    injection h1 with h1
    injection h1 with _ h1 _
    revert h1
    decide
  have hmem : ∀ y ∈ c.set i ⟨c[i].f, t, c[i].lv, c[i].ss⟩, ∃ z ∈ c, y.lv = z.lv ∧ y.ss = z.ss := fun y hy => by
    rcases List.mem_or_eq_of_mem_set hy with hy | hy
    · exact ⟨y, hy, rfl, rfl⟩
    · exact ⟨c[i], List.getElem_mem hi, by rw [hy], by rw [hy]⟩
  refine ⟨⟨blk_keep h.cel (hgs.block C h.cel.lt (fun q => by injection q with q; have := h.lo; omega)), h.lo, ⟨by simpa using hst.1, fun y hy => ?_⟩, fun y hy => ?_⟩, hgs⟩
  · obtain ⟨z, hz, e1, e2⟩ := hmem y hy
    rw [e1, e2]
    refine ⟨Rd.grown hgs (.inr (.inl (hlC z hz))) (h.cues.lines z hz).1, fun k hk => ?_⟩
    rcases (h.cues.lines z hz).2 k hk with h1 | ⟨c2, t2, f2, h2, hne⟩
    · exact .inl h1
    · exact .inr ⟨c2, t2, f2, (hgs.block k (Array.getElem?_eq_some_iff.1 h2).1 (fun q => hlC z hz (by rw [hk, q]))).trans h2, hne⟩
  · obtain ⟨z, hz, e1, e2⟩ := hmem y hy
    rw [e1, e2]
    exact ⟨(h.lns z hz).1.setCell _ _ (hlC z hz), (h.lns z hz).2⟩
end Go.Proofs.YthadhmhbbfjomaaGreatDoor
