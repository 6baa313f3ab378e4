/-
  The next operation of a drawn region whose pure operations are carried out, where only one is ready.
  Conditions: none.
-/
import Derived.Test.YtckmebfgianeoaaDoorKit
namespace Go.Proofs.YtckmebfgianeoaaDoor
open Go.RowKit
set_option linter.unusedVariables false

theorem still_next {P : Program} {ops : Array Oper} {md : Region.Mode} {Q : Exit → Act → World → Prop} {S : Nat → World → Prop} {f j : Nat} {oj : Oper} {listed : Array Bool} {a : Act} {w : World} (hl : Region.ready md ops listed = [j]) (hj : ops[j]? = some oj)
    (h : ∀ R : Act → World → Prop, (∀ a' w', (∀ i, ¬ waitsFor md ops j i → S i w → S i w') → stillAny P md ops Q S f (listed.setIfInBounds j true) a' w' → R a' w') → wpList P ops (only R) [oj] a w) : stillAny P md ops Q S (f + 1) listed a w :=
  still_pick [j] hl (by simp) (fun i hi => by rw [List.mem_singleton.1 hi]; exact still_one hj h)
end Go.Proofs.YtckmebfgianeoaaDoor
