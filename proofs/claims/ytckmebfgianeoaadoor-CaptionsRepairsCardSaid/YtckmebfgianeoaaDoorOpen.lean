/-
  A struct of one-cell fields, by value: its fields one by one, however many. No program in sight.
  Conditions: none.
-/
import Derived.Test.YtckmebfgianeoaaDoorKit
import Derived.Lib.SmallJoins
namespace Go.Proofs.YtckmebfgianeoaaDoor
open Go.ChangeShapes Go.WideShapes Go.ChangeAt Go.RowKit Go.Joins Go.Deep

theorem list_of2 {α : Type} : ∀ {l : List α}, l.length = 2 → ∃ x0 x1, l = [x0, x1]
  | [x0, x1], _ => ⟨x0, x1, rfl⟩
theorem list_of3 {α : Type} : ∀ {l : List α}, l.length = 3 → ∃ x0 x1 x2, l = [x0, x1, x2]
  | [x0, x1, x2], _ => ⟨x0, x1, x2, rfl⟩
theorem list_of4 {α : Type} : ∀ {l : List α}, l.length = 4 → ∃ x0 x1 x2 x3, l = [x0, x1, x2, x3]
  | [x0, x1, x2, x3], _ => ⟨x0, x1, x2, x3, rfl⟩
theorem list_of5 {α : Type} : ∀ {l : List α}, l.length = 5 → ∃ x0 x1 x2 x3 x4, l = [x0, x1, x2, x3, x4]
  | [x0, x1, x2, x3, x4], _ => ⟨x0, x1, x2, x3, x4, rfl⟩
theorem list_of6 {α : Type} : ∀ {l : List α}, l.length = 6 → ∃ x0 x1 x2 x3 x4 x5, l = [x0, x1, x2, x3, x4, x5]
  | [x0, x1, x2, x3, x4, x5], _ => ⟨x0, x1, x2, x3, x4, x5, rfl⟩
theorem list_of7 {α : Type} : ∀ {l : List α}, l.length = 7 → ∃ x0 x1 x2 x3 x4 x5 x6, l = [x0, x1, x2, x3, x4, x5, x6]
  | [x0, x1, x2, x3, x4, x5, x6], _ => ⟨x0, x1, x2, x3, x4, x5, x6, rfl⟩
theorem list_of8 {α : Type} : ∀ {l : List α}, l.length = 8 → ∃ x0 x1 x2 x3 x4 x5 x6 x7, l = [x0, x1, x2, x3, x4, x5, x6, x7]
  | [x0, x1, x2, x3, x4, x5, x6, x7], _ => ⟨x0, x1, x2, x3, x4, x5, x6, x7, rfl⟩
theorem list_of9 {α : Type} : ∀ {l : List α}, l.length = 9 → ∃ x0 x1 x2 x3 x4 x5 x6 x7 x8, l = [x0, x1, x2, x3, x4, x5, x6, x7, x8]
  | [x0, x1, x2, x3, x4, x5, x6, x7, x8], _ => ⟨x0, x1, x2, x3, x4, x5, x6, x7, x8, rfl⟩

theorem open_fields {H : Type} {enc : TypeId × Value → H} {P : Program} {w : World} {base : Nat} {spare : Nat → Bool} {held : Bool} {r : Reach} {b0 : Nat} {t : TypeId} {fs : Array Field} {v : Value} {d : DataW H} {p : List MemPlace} (N : Nat) (hN : fs.size = N)
    (hs : P.underlying t = some (.struct fs)) (hone : oneCellFields P fs = true) (hC : P.cellsOf t = N) (hv : Value.okWide P w r b0 t v) (h : DataW.Trod enc P w base spare held t v d p) :
    ∃ (vs : List Value) (ys : List (DataW H × List MemPlace)) (n : Nat), v = .agg vs.toArray ∧ vs.length = N ∧ ys.length = N ∧ d = .agg (ys.map (·.1)) ∧ p = ys.flatMap (·.2) ∧
      ∀ (i : Nat) (f : Field) (c : Value) (y : DataW H × List MemPlace), fs[i]? = some f → vs[i]? = some c → ys[i]? = some y → DataW.trod enc P w base spare held n f.type [c] = some y := by
  obtain ⟨cs, rfl, hsz⟩ := okWide_struct hs hv
  obtain ⟨fuel, hf⟩ := h
  obtain ⟨ys, n, _, hx, _, hlen, hg⟩ := DataW.trod_struct hs hf
  simp only [Prod.mk.injEq] at hx
  refine ⟨cs.toList, ys, n, by simp, by simpa using hsz.trans hC, hlen.trans hN, hx.1, hx.2, fun i f c y hi hc hy => ?_⟩
  obtain ⟨o, k⟩ := hone_of hone i f hi
  rw [← hy, ← hg i f hi, o, k]
  obtain ⟨hlt, he⟩ := List.getElem?_eq_some_iff.1 hc
  congr 1
  simp only [Value.cells]
  rw [List.drop_eq_getElem_cons hlt, he]
  simp
end Go.Proofs.YtckmebfgianeoaaDoor
