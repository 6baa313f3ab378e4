/-
  The next operation of a drawn region whose pure operations are carried out, where only one is ready.
  Conditions: none.
-/
import Derived.Test.YthadhmhbbfjomaaGreatDoorKit
namespace Go.Proofs.YthadhmhbbfjomaaGreatDoor
open Go.RowKit
set_option linter.unusedVariables false

theorem still_next {P : Program} {ops : Array Oper} {md : Region.Mode} {Q : Exit → Act → World → Prop} {S : Nat → World → Prop} {f j : Nat} {oj : Oper} {listed : Array Bool} {a : Act} {w : World} (hl : Region.ready md ops listed = [j]) (hj : ops[j]? = some oj)
    (h : ∀ R : Act → World → Prop, (∀ a' w', (∀ i, ¬ waitsFor md ops j i → S i w → S i w') → stillAny P md ops Q S f (listed.setIfInBounds j true) a' w' → R a' w') → wpList P ops (only R) [oj] a w) : stillAny P md ops Q S (f + 1) listed a w :=
  still_pick [j] hl (by simp) (fun i hi => by rw [List.mem_singleton.1 hi]; exact still_one hj h)
/-- two operations are ready -/
theorem still_both {P : Program} {ops : Array Oper} {md : Region.Mode} {Q : Exit → Act → World → Prop} {S : Nat → World → Prop} {f i j : Nat} {oi oj : Oper} {listed : Array Bool} {a : Act} {w : World} (hl : Region.ready md ops listed = [i, j]) (hi : ops[i]? = some oi) (hj : ops[j]? = some oj)
    (h1 : ∀ R : Act → World → Prop, (∀ a' w', (∀ t, ¬ waitsFor md ops i t → S t w → S t w') → stillAny P md ops Q S f (listed.setIfInBounds i true) a' w' → R a' w') → wpList P ops (only R) [oi] a w)
    (h2 : ∀ R : Act → World → Prop, (∀ a' w', (∀ t, ¬ waitsFor md ops j t → S t w → S t w') → stillAny P md ops Q S f (listed.setIfInBounds j true) a' w' → R a' w') → wpList P ops (only R) [oj] a w) : stillAny P md ops Q S (f + 1) listed a w :=
  still_pick [i, j] hl (by simp) (fun t ht => by
    rcases List.mem_cons.1 ht with rfl | ht
    · exact still_one hi h1
    · rw [List.mem_singleton.1 ht]; exact still_one hj h2)
end Go.Proofs.YthadhmhbbfjomaaGreatDoor
