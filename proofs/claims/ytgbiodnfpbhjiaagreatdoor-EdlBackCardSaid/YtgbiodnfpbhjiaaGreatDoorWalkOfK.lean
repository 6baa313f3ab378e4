/-
  What the maker of a list of events leaves as it was: every old cell but the cell of the list's events.
  Conditions: none.
-/
import Derived.Test.YtgbiodnfpbhjiaaGreatDoorWalkOfB
import Derived.Test.YtgbiodnfpbhjiaaGreatDoorMathFb
namespace Go.Proofs.YtgbiodnfpbhjiaaGreatDoor
open Go.RowKit Go.Lib
set_option linter.unusedSimpArgs false
set_option linter.unusedVariables false

/-- every old cell but one stands -/
structure Kp (W : World) (L : Nat) (wr : World) : Prop where
  sz : W.heap.size ≤ wr.heap.size
  at_ : ∀ b o, b < W.heap.size → ¬ (b = L ∧ o = 3) → wr.cell? ⟨b, o, none⟩ = W.cell? ⟨b, o, none⟩
theorem Kp.refl (W : World) (L : Nat) : Kp W L W := ⟨Nat.le_refl _, fun _ _ _ _ => rfl⟩
theorem Kp.gr {W : World} {L : Nat} {wr wx : World} (h : Kp W L wr) (hg : Gr wr wx) : Kp W L wx :=
  ⟨Nat.le_trans h.sz hg.size, fun b o hb hn => by rw [hg.cells.1 b o (Nat.lt_of_lt_of_le hb h.sz)]; exact h.at_ b o hb hn⟩
theorem Kp.grown {W : World} {L g : Nat} {wr wx : World} (h : Kp W L wr) (hg : wr.grownBy wx (some g)) (hb : W.heap.size ≤ g) : Kp W L wx := by
  refine ⟨Nat.le_trans h.sz hg.size, fun b o hb2 hn => ?_⟩
  rw [← h.at_ b o hb2 hn]
  exact World.cell?_of_block (a := ⟨b, o, none⟩) (hg.block b (Nat.lt_of_lt_of_le hb2 h.sz) (by intro e; injection e with e; omega))
theorem Kp.put {W : World} {L : Nat} {wr : World} (h : Kp W L wr) (u : Value) : Kp W L (wr.setCell ⟨L, 3, none⟩ u) := by
  refine ⟨by simpa using h.sz, fun b o hb hn => ?_⟩
  rw [← h.at_ b o hb hn]
  exact World.cell?_setCell_other _ _ _ _ (by intro e; simp only [Addr.mk.injEq] at e; exact hn (by first | exact ⟨e.1.symm, e.2.1.symm⟩ | exact ⟨e.1, e.2.1⟩))
theorem Kp.rd {W : World} {L : Nat} {wr : World} (h : Kp W L wr) {v : Value} {n : Nat} {xs : List Value} (hr : Rd W v n 1 xs) (hL : ∀ u, W.cell? ⟨L, 3, none⟩ = some u → u ∉ xs) : Rd wr v n 1 xs := by
  obtain ⟨hl, a, cap, rfl, h0⟩ := hr
  refine ⟨hl, a, cap, rfl, ?_⟩
  rcases h0 with h0 | ⟨b, o, rfl, hb, hc⟩
  · exact .inl h0
  · refine .inr ⟨b, o, rfl, Nat.lt_of_lt_of_le hb h.sz, fun j u hu => ?_⟩
    have h1 := hc j u hu
    rw [h.at_ b _ hb fun e => ?_]
    · exact h1
    · obtain ⟨e1, e2⟩ := e
      subst e1
      rw [e2] at h1
      exact hL u h1 (List.mem_of_getElem? hu)
/-- the clips stand -/
theorem Kp.trk {W : World} {L : Nat} {wr : World} (h : Kp W L wr) {v : Value} {cs : List CM} (ht : TrR W v cs) {T : TypeId} {p q r s : Value} (hb : Blk W L T [p, q, r, s]) (hs : ∀ y : Int, Value.int .i64 y ≠ s) : TrR wr v cs := by
  refine ⟨?_, fun c hc => h.rd (ht.ch c hc) fun u hu hm => ?_⟩
  · obtain ⟨hl, a, cap, rfl, h0⟩ := ht.rd
    refine ⟨hl, a, cap, rfl, ?_⟩
    rcases h0 with h0 | ⟨b, o, rfl, hlt, hc⟩
    · exact .inl h0
    · cases cs with
      | nil => exact .inl ⟨rfl, fun e => by cases e⟩
      | cons c cs =>
        refine .inr ⟨b, o, rfl, Nat.lt_of_lt_of_le hlt h.sz, fun j u hu => ?_⟩
        rw [h.at_ b _ hlt fun e => ?_]
        · exact hc j u hu
        · obtain ⟨e1, _⟩ := e
          subst e1
          have h1 := hc 21 c.cv rfl
          rw [hb.cell] at h1
          rw [List.getElem?_eq_none (by simp)] at h1
          cases h1
  · rw [hb.cell] at hu
    have hu : s = u := by simpa using hu
    subst hu
    unfold intsV at hm
    obtain ⟨y, _, hy⟩ := List.mem_map.1 hm
    exact hs y hy
end Go.Proofs.YtgbiodnfpbhjiaaGreatDoor
