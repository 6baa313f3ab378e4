/-
  Maps with strings as keys, their elements as they lie.
  Conditions: none.
-/
import Derived.Test.YthadhmhbbfjomaaGreatDoorChecked
import Derived.Test.YthadhmhbbfjomaaGreatDoorMem
import Derived.StringKeys
import Derived.Maps.Own
import Derived.Maps.OwnSet
import Derived.Maps.Views
namespace Go.Proofs.YthadhmhbbfjomaaGreatDoor
open Go.RowKit Go.Lib
set_option linter.unusedVariables false
set_option linter.unusedSimpArgs false

/-- an element read as itself -/
def heldR (v : Value) : Option (DataW Value × List MemPlace) := some (.held v, [])
theorem keyed_str : Maps.Keyed Tryz.prog 9 := Maps.string_keyed Tryz.underlying9
/-- a map in memory: at most n entries, read as D -/
def MapO (w : World) (b n : Nat) (D : DataW Value) : Prop := w.ownsMap Tryz.prog 9 heldR b n D
theorem MapO.lt {w : World} {b n : Nat} {D : DataW Value} (h : MapO w b n D) : b < w.heap.size := World.ownsMap.lt h
theorem MapO.new (w : World) : MapO (w.alloc (.map #[] 0)) w.heap.size 0 (.map []) := World.ownsMap_made w _ _ _
theorem MapO.gr {w w' : World} {b n : Nat} {D : DataW Value} (hg : Gr w w') (h : MapO w b n D) : MapO w' b n D := World.ownsMap.kept h hg.by0 (by simp)
theorem MapO.grown {w w' : World} {b n : Nat} {D : DataW Value} {r : Option Nat} (h : MapO w b n D) (hg : w.grownBy w' r) (hr : r ≠ some b) : MapO w' b n D := World.ownsMap.kept h hg (fun e => hr e.symm)
theorem MapO.other {w : World} {b n : Nat} {D : DataW Value} (h : MapO w b n D) {p : Addr} (hp : p.block ≠ b) (u : Value) : MapO (w.setCell p u) b n D := World.ownsMap.setCell h (fun e => hp e.symm) u
theorem MapO.key (s : ByteArray) (hs : s.size ≤ maxLen) : keyOf Tryz.prog 9 (.string s) = some (Lit.string s.data.toList) := by
  exact Go.WideMaps.keyOf_string_mk Tryz.underlying9 hs
end Go.Proofs.YthadhmhbbfjomaaGreatDoor
