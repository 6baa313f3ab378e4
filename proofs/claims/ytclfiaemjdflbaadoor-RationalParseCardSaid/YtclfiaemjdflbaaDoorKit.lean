/-
  Small words for walks: a world that has at most new blocks; results. No program in sight.
  Conditions: none.
-/
import Derived.Below
import Derived.Lib.Hide
import Derived.Deep.Draws
import Derived.WalkKit
namespace Go.Proofs.YtclfiaemjdflbaaDoor
open Go.RowKit

/-- the world w' has what w has, and new blocks -/
def Gr (a w : World) : Prop := Below a.heap.size a w
theorem Gr.refl (a : World) : Gr a a := Below.refl _ _
theorem Gr.below {a w : World} (h : Gr a w) : Below a.heap.size a w := h
theorem Gr.size {a w : World} (h : Gr a w) : a.heap.size ≤ w.heap.size := Below.size h
theorem Gr.alloc {a w : World} (h : Gr a w) (o : Obj) : Gr a (w.alloc o) := Below.alloc h h.size o
theorem Gr.drew {a w : World} (h : Gr a w) : Gr a w.drew := Below.drew h
theorem Gr.drewN {a w : World} (h : Gr a w) (n : Nat) : Gr a (w.drewN n) := ⟨h.os, h.tape, h.output, h.size, h.block⟩
theorem Gr.setCell {a w : World} (h : Gr a w) {p : Addr} (hp : a.heap.size ≤ p.block) (u : Value) : Gr a (w.setCell p u) := Below.setCell h hp u
theorem Gr.trans {a b c : World} (h : Gr a b) (k : Gr b c) : Gr a c := Below.trans h (Below.mono k h.size)
theorem Gr.of_drewN {w w' : World} (h : ∃ n, w' = w.drewN n) : Gr w w' := by obtain ⟨n, rfl⟩ := h; exact (Gr.refl _).drewN n
theorem Gr.cells {W w1 : World} (hb : Gr W w1) : (∀ b o, b < W.heap.size → w1.cell? ⟨b, o, none⟩ = W.cell? ⟨b, o, none⟩) ∧ (∀ b o, b < W.heap.size → w1.frozen? ⟨b, o, none⟩ = W.frozen? ⟨b, o, none⟩) :=
  ⟨fun b o h => Below.cell hb (p := ⟨b, o, none⟩) h, fun b o h => Below.frozen hb (p := ⟨b, o, none⟩) h⟩

theorem ret_int {k : IntKind} {a b : Int} (h : a = b) : Ending.returned (.int k a) = .returned (.int k b) := by rw [h]
theorem ret_bool {a b : Bool} (h : a = b) : Ending.returned (.bool a) = .returned (.bool b) := by rw [h]
end Go.Proofs.YtclfiaemjdflbaaDoor
