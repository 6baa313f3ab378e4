/-
  The bound of the second form, as plain numbers.
  Conditions: none.
-/
import Derived.Test.YtckmebfgianeoaaDoorRows
namespace Go.Proofs.YtckmebfgianeoaaDoor

theorem upto_bound {H : Type} {l : List (DataW H)} (hk : Rows.uptoSmall H l = true) : Rows.uptoBulkAll l ≤ 1048576 := by
  have h : decide (Rows.uptoBulkAll l ≤ 1048576) = true := hk
  exact of_decide_eq_true h
theorem upto_str {H : Type} {s : ByteArray} {r : List (DataW H)} (h : Rows.uptoBulkAll (DataW.lit (H := H) (.string s.data.toList) :: r) ≤ 1048576) : s.size ≤ 1048576 := by
  simp only [Rows.uptoBulkAll, Rows.uptoBulk] at h
  simp at h
  omega
end Go.Proofs.YtckmebfgianeoaaDoor
