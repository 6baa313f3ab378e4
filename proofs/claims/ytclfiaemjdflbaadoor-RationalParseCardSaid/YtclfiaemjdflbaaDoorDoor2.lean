/-
  What the rows' condition on the variables of strconv gives a walk.
  Conditions: none.
-/
import Derived.Test.YtclfiaemjdflbaaDoorRows
import Derived.Test.YtclfiaemjdflbaaDoorWalkFm
import Derived.ProofKit
import Derived.LaidMore
import Derived.LaidOnce
import Derived.Stop.LaidErr
namespace Go.Proofs.YtclfiaemjdflbaaDoor
open Go.ChangeShapes Go.WideShapes Go.ChangeAt Go.RowKit
set_option linter.unusedVariables false

def laidStr : List (String × DataW Unit) := [("math/bits.deBruijn32tab", Rows.laid_math_bits_deBruijn32tab), ("math/bits.deBruijn64tab", Rows.laid_math_bits_deBruijn64tab), ("internal/strconv.uint64pow10", Rows.laid_internal_strconv_uint64pow10), ("strconv.ErrRange", Rows.laid_strconv_ErrRange), ("strconv.ErrSyntax", Rows.laid_strconv_ErrSyntax)]
theorem laidStr_met (os : Os) (args : Array Value) : laidMetH Tryd.prog laidStr ((World.doorLaid Tryd.prog 81 os).forCall (fun _ _ => 0) ⟨#[], args, []⟩).memory :=
  laidMetH_of_parts3 (fuel := 8) (laidMet_of_run' 8 (by kernel_rfl) (by kernel_rfl)) (by kernel_rfl) (by kernel_rfl)

theorem str_weight {P : Program} {H : Type} {t : TypeId} {ts : List TypeId} {s : ByteArray} {rest : List (DataW H)} (h : (DataW.weightsEach P (t :: ts) (.lit (.string s.data.toList) :: rest)).all (· ≤ reachBytes) = true) : s.size ≤ 140737488355328 := by
  simp only [DataW.weightsEach, DataW.weights, List.all_append, List.all_cons, Bool.and_eq_true, decide_eq_true_eq] at h
  have h1 := h.1.1
  unfold reachBytes at h1
  simp at h1
  omega
theorem iface_head {P : Program} {n nm : String} {d : DataW Unit} {r : List (String × DataW Unit)} {W : World} {g : Nat} {ti : TypeId} {ms : Array (String × TypeId)}
    (hg : P.globalNamed n = some g) (ht : (P.globals[g]?).map (·.type) = some ti) (hi : P.underlying ti = some (.interface ms)) (h : laidMet P ((n, .iface nm d) :: r) W) : ∃ tp p, W.var? P n = some #[.iface tp p] := by
  obtain ⟨ps, ⟨g0, t0, cs0, f0, p0, q0, hg0, ht0, hv0, hd0, _, e0⟩, _, _⟩ := h
  obtain rfl := Option.some.inj (hg.symm.trans hg0)
  obtain rfl := Option.some.inj (ht.symm.trans ht0)
  obtain ⟨l0⟩ := cs0
  obtain ⟨f1, u, v, e, _⟩ := iface_of_trod hi hd0
  simp only at e
  exact ⟨u, v, by rw [hv0, e]⟩
theorem powTab : Rows.laid_internal_strconv_uint64pow10 (H := Unit) = Lib.tabData .u64 Lib.pow10Tab := by
  unfold Rows.laid_internal_strconv_uint64pow10 Lib.tabData Lib.pow10Tab
  simp [List.range, List.range.loop]
theorem tabs_of_laid {W : World} (h : laidMetH Tryd.prog laidStr W) : Tabs W := by
  rw [MakeChecks.laidMetH_plain _ _ _ (by kernel_rfl)] at h
  have h3 := laidMet.tail (laidMet.tail h)
  have h4 := laidMet.tail h3
  have h5 := laidMet.tail h4
  refine ⟨Lib.tabIs_of_head (g := 3) (by kernel_rfl) (by kernel_rfl) Tryd.underlying89 Tryd.underlying41 (by kernel_rfl) (by kernel_rfl) (by rw [← powTab]; exact h3),
    iface_head (g := 5) (by kernel_rfl) (by kernel_rfl) Tryd.underlying57 h5, iface_head (g := 6) (by kernel_rfl) (by kernel_rfl) Tryd.underlying57 h4⟩
end Go.Proofs.YtclfiaemjdflbaaDoor
