/-
  An argument of bytes as the reading hands it over.
  Conditions: none.
-/
import Derived.Test.YthadhmhbbfjomaaGreatDoorOpen29
namespace Go.Proofs.YthadhmhbbfjomaaGreatDoor
open Go.ChangeShapes Go.WideShapes Go.RowKit Go.Joins Go.Deep
set_option linter.unusedVariables false

structure BytesArg (w : World) (a : Option Addr) (cap : Nat) (xs : List Int) : Prop where
  rd : Rd w (.slice a xs.length cap) xs.length 1 (xs.map (Value.int .u8))
  ok : ∀ x ∈ xs, 0 ≤ x ∧ x ≤ 255
  n : xs.length ≤ 140737488355328
theorem BytesArg.gr {w w' : World} {a : Option Addr} {cap : Nat} {xs : List Int} (hg : Gr w w') (h : BytesArg w a cap xs) : BytesArg w' a cap xs := ⟨h.rd.gr hg, h.ok, h.n⟩
section
variable {H : Type} {enc : TypeId × Value → H} {w : World} {base : Nat} {sp : Nat → Bool} {held : Bool} {fuel : Nat}
theorem bytes_open {v : Value} {x : DataW H × List MemPlace} (h : DataW.trod enc Tryz.prog w base sp held fuel 23 [v] = some x) (hw : ∀ n ∈ x.1.weights Tryz.prog 23, n ≤ reachBytes) :
    ∃ (a : Option Addr) (cap : Nat) (xs : List Int), v = .slice a xs.length cap ∧ BytesArg w a cap xs := by
  rcases open_ints Tryz.underlying23 Tryz.underlying5 (by kernel_rfl) h with ⟨e, rfl⟩ | ⟨a, len, cap, zs, e, hb, hlc, hcm, hlen, rfl, hcell, hwf⟩
  · simp at e; subst e
    exact ⟨none, 0, [], rfl, ⟨Rd.nil w 1, fun s hs => (by cases hs), by simp⟩⟩
  simp at e; subst e
  have hle : len ≤ zs.length := by rw [hlen]; split <;> omega
  have hz : (zs.take len).length = len := by simp [hle]
  have hu : Tryz.prog.underlying 23 = some (.slice 5) := Tryz.underlying23
  have hb1 : Tryz.prog.bytesOf 5 = 1 := by kernel_rfl
  refine ⟨some a, cap, zs.take len, by rw [hz], ?_, ?_, ?_⟩
  · rw [hz]
    refine rd_open (by omega) (by simp [hle]) fun j u hj => ?_
    have hj2 : j < len := by
      have := (List.getElem?_eq_some_iff.1 hj).1
      simp at this; omega
    have h2 := hcell j (by omega)
    rw [h2]
    rw [List.getElem?_map, List.getElem?_take, if_pos hj2, List.getElem?_eq_getElem (show j < zs.length by omega)] at hj
    simp at hj
    rw [List.getD_eq_getElem?_getD, List.getElem?_eq_getElem (show j < zs.length by omega)]
    simp [hj]
  · intro n hn
    have := hwf n (List.mem_of_mem_take hn)
    simp [Lit.wf, IntKind.min, IntKind.max, IntKind.signed, IntKind.bits] at this
    omega
  · rw [hz]
    have := hw ((lits (H := H) .u8 (zs.take len)).length * 1 + (lits (H := H) .u8 (zs.drop len)).length * 1) (by
      simp only [DataW.weights, hu, hb1, Nat.mul_one]
      exact List.mem_cons_self ..)
    unfold reachBytes lits at this
    simp at this
    omega
end
end Go.Proofs.YthadhmhbbfjomaaGreatDoor
