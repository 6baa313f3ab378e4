/-
  What a walk knows of a variable of its own, said of a world that is a letter.
  Conditions: none.
-/
import Derived.Test.YtclfiaemjdflbaaDoorKit
import Derived.OneCell
namespace Go.Proofs.YtclfiaemjdflbaaDoor
open Go.RowKit
set_option linter.unusedVariables false

theorem world_gen {p : World → Prop} {W : World} (R : World → Prop) (hR : R W) (h : ∀ W', R W' → p W') : p W := h W hR

/-- block g has the cells vs from place 0 on, and none of them is frozen -/
def Cel (W : World) (g : Nat) (vs : List Value) : Prop := g < W.heap.size ∧ ∀ j v, vs[j]? = some v → W.cell? ⟨g, j, none⟩ = some v ∧ W.frozen? ⟨g, j, none⟩ = false
theorem Cel.lt {W : World} {g : Nat} {vs : List Value} (h : Cel W g vs) : g < W.heap.size := h.1
theorem Cel.gr {W w : World} {g : Nat} {vs : List Value} (hg : Gr W w) (h : Cel W g vs) : Cel w g vs :=
  ⟨Nat.lt_of_lt_of_le h.1 hg.size, fun j v hv => ⟨by rw [hg.cells.1 g j h.1]; exact (h.2 j v hv).1, by rw [hg.cells.2 g j h.1]; exact (h.2 j v hv).2⟩⟩
theorem Cel.alloc {W : World} {g : Nat} {vs : List Value} (h : Cel W g vs) (o : Obj) : Cel (W.alloc o) g vs := h.gr ((Gr.refl W).alloc o)
theorem Cel.drew {W : World} {g : Nat} {vs : List Value} (h : Cel W g vs) : Cel W.drew g vs := h.gr (Gr.refl W).drew
theorem Cel.drewN {W : World} {g : Nat} {vs : List Value} (h : Cel W g vs) (n : Nat) : Cel (W.drewN n) g vs := h.gr ((Gr.refl W).drewN n)
theorem Cel.new (W : World) (C : Array Value) (t : TypeId) : Cel (W.alloc (.cells C t)) W.heap.size C.toList :=
  ⟨by simp, fun j v hv => ⟨by simpa using hv, by simp⟩⟩
theorem Cel.other {W : World} {g : Nat} {vs : List Value} (h : Cel W g vs) {p : Addr} (hp : p.block ≠ g) (u : Value) : Cel (W.setCell p u) g vs := by
  refine ⟨by simpa using h.1, fun j v hv => ⟨?_, ?_⟩⟩
  · rw [World.cell?_setCell_other (h := fun e => hp (by rw [e]))]
    exact (h.2 j v hv).1
  · rw [World.frozen?_setCell]
    exact (h.2 j v hv).2
theorem Cel.set {W : World} {g k : Nat} {vs : List Value} (h : Cel W g vs) (hk : k < vs.length) (u : Value) : Cel (W.setCell ⟨g, k, none⟩ u) g (vs.set k u) := by
  refine ⟨by simpa using h.1, fun j v hv => ⟨?_, ?_⟩⟩
  · by_cases hj : k = j
    · subst hj
      rw [List.getElem?_set_self hk] at hv
      rw [World.cell?_setCell_same (h := (h.2 k vs[k] (by simp [hk])).1)]
      exact hv
    · rw [List.getElem?_set_ne hj] at hv
      rw [World.cell?_setCell_other (h := fun e => hj (by injection e))]
      exact (h.2 j v hv).1
  · rw [World.frozen?_setCell]
    by_cases hj : k = j
    · subst hj
      exact (h.2 k vs[k] (by simp [hk])).2
    · rw [List.getElem?_set_ne hj] at hv
      exact (h.2 j v hv).2
theorem Cel.out {W : World} {g : Nat} {vs : List Value} (h : Cel W g vs) (j : Nat) (v : Value) (hv : vs[j]? = some v) : W.cell? ⟨g, j, none⟩ = some v ∧ W.frozen? ⟨g, j, none⟩ = false := h.2 j v hv
theorem Cel.one {W : World} {g : Nat} {a : Value} (h : Cel W g [a]) : W.cell? ⟨g, 0, none⟩ = some a ∧ W.frozen? ⟨g, 0, none⟩ = false := h.2 0 a rfl
theorem Cel.two {W : World} {g : Nat} {a b : Value} (h : Cel W g [a, b]) : g < W.heap.size ∧ W.cell? ⟨g, 0, none⟩ = some a ∧ W.cell? ⟨g, 1, none⟩ = some b ∧ W.frozen? ⟨g, 0, none⟩ = false ∧ W.frozen? ⟨g, 1, none⟩ = false :=
  ⟨h.1, (h.2 0 a rfl).1, (h.2 1 b rfl).1, (h.2 0 a rfl).2, (h.2 1 b rfl).2⟩
theorem Cel.three {W : World} {g : Nat} {a b c : Value} (h : Cel W g [a, b, c]) : g < W.heap.size ∧ W.cell? ⟨g, 0, none⟩ = some a ∧ W.cell? ⟨g, 1, none⟩ = some b ∧ W.cell? ⟨g, 2, none⟩ = some c ∧ W.frozen? ⟨g, 0, none⟩ = false ∧ W.frozen? ⟨g, 1, none⟩ = false ∧ W.frozen? ⟨g, 2, none⟩ = false :=
  ⟨h.1, (h.2 0 a rfl).1, (h.2 1 b rfl).1, (h.2 2 c rfl).1, (h.2 0 a rfl).2, (h.2 1 b rfl).2, (h.2 2 c rfl).2⟩
theorem Cel.mk2 {W : World} {g : Nat} {a b : Value} (h : g < W.heap.size) (h0 : W.cell? ⟨g, 0, none⟩ = some a) (h1 : W.cell? ⟨g, 1, none⟩ = some b) (f0 : W.frozen? ⟨g, 0, none⟩ = false) (f1 : W.frozen? ⟨g, 1, none⟩ = false) : Cel W g [a, b] := by
  refine ⟨h, fun j v hv => ?_⟩
  match j, hv with
  | 0, hv => injection hv with hv; subst hv; exact ⟨h0, f0⟩
  | 1, hv => injection hv with hv; subst hv; exact ⟨h1, f1⟩
end Go.Proofs.YtclfiaemjdflbaaDoor
