
/-
  What is known of the table of powers; the text of a number. Repeat of a digit; padded numbers.
  Conditions: the listed variable of strconv holds what its text lays.
-/
import Derived.Test.YthadhmhbbfjomaaGreatDoorChecked
import Derived.Test.YthadhmhbbfjomaaGreatDoorShelf
import Derived.Test.YthadhmhbbfjomaaGreatDoorMem
import Derived.WalkSpells
import Derived.WalkLawsBesides
import Derived.Lib.LaidTab
import Derived.Laws.Concat
import Derived.Laws.IdiomStrings
import Derived.Test.YthadhmhbbfjomaaGreatDoorKit
namespace Go.Proofs.YthadhmhbbfjomaaGreatDoor
open Go.RowKit Go.Lib
set_option linter.unusedSimpArgs false
set_option linter.unusedVariables false

/-- the table of the powers of ten is laid -/
def Pow (w : World) : Prop := Lib.TabIs Tryz.prog w "internal/strconv.uint64pow10" .u64 Lib.pow10Tab
theorem pvar_gr {W w : World} (hg : Gr W w) {n : String} {cs : Array Value} (h : W.var? Tryz.prog n = some cs) : w.var? Tryz.prog n = some cs := by
  unfold World.var? at *
  cases hn : Tryz.prog.globalNamed n with
  | none => rw [hn] at h; cases h
  | some g =>
    rw [hn] at h
    simp only [Option.bind_some] at h ⊢
    split at h
    · rename_i c t fr hb
      rw [Below.block hg g (lt_of_block hb), hb]
      exact h
    · cases h
theorem Pow.gr {W w : World} (hg : Gr W w) (h : Pow W) : Pow w := pvar_gr hg h
theorem gr_grow {w : World} (os : Array Obj) : Gr w (Go.Sort.grow w os) :=
  ⟨rfl, rfl, rfl, by show w.heap.size ≤ (w.heap ++ os).size; simp, fun b hb => by show (w.heap ++ os)[b]? = w.heap[b]?; rw [Array.getElem?_append_left hb]⟩
theorem fint_any (n : Int) (w : World) (hT : Pow w) (h0 : -9223372036854775808 ≤ n) (h1 : n ≤ 9223372036854775807) :
    Calls Tryz.prog 61 #[.int .i64 n, .int .i64 10] w fun e w' => e = .returned (.string ⟨(Lib.itoa n).toArray⟩) ∧ Gr w w' :=
  (Tryz.strconv_FormatInt_10 n h0 h1 w hT).mono fun e w' ⟨he, k, os, hw⟩ => ⟨he, by rw [hw]; exact ((Gr.refl w).drewN k).trans (gr_grow os)⟩
theorem itoa_any (n : Int) (w : World) (hT : Pow w) (h0 : -9223372036854775808 ≤ n) (h1 : n ≤ 9223372036854775807) :
    Calls Tryz.prog 41 #[.int .i64 n] w fun e w' => e = .returned (.string ⟨(Lib.itoa n).toArray⟩) ∧ Gr w w' :=
  (Tryz.strconv_Itoa n h0 h1 w hT).mono fun e w' ⟨he, k, os, hw⟩ => ⟨he, by rw [hw]; exact ((Gr.refl w).drewN k).trans (gr_grow os)⟩
end Go.Proofs.YthadhmhbbfjomaaGreatDoor
