/-
  Contract of tooLarge of package timeline at a project of one medium.
  Conditions: the medium has at most 64 captions.
-/
import Derived.Test.YthadhmhbbfjomaaGreatDoorWalkMb
namespace Go.Proofs.YthadhmhbbfjomaaGreatDoor
open Go.RowKit Go.Lib
set_option linter.unusedSimpArgs false
set_option linter.unusedVariables false

set_option maxRecDepth 20000 in
set_option maxHeartbeats 2000000 in
theorem toolarge_ok (MB mc : Nat) (ml : List Value) (nm : ByteArray) (fr : Int) (ca : Option Addr) (n cap : Nat) (w : World) (hb : Blk w MB 33 ml) (hm : MedR ml nm fr (.slice ca n cap)) (hn : n ≤ 64) :
    Calls Tryz.prog 24 #[.agg #[.slice (some ⟨MB, 0, none⟩) 1 mc, .slice none 0 0]] w fun e w' => e = .returned (.bool false) ∧ Gr w w' := by
  have hp0 := Cel.new w #[.slice (some ⟨MB, 0, none⟩) 1 mc, .slice none 0 0] 37
  have hg0 : Gr w (w.alloc (.cells #[.slice (some ⟨MB, 0, none⟩) 1 mc, .slice none 0 0] 37)) := (Gr.refl w).alloc _
  obtain ⟨W, hW⟩ : ∃ W, w.alloc (.cells #[.slice (some ⟨MB, 0, none⟩) 1 mc, .slice none 0 0] 37) = W := ⟨_, rfl⟩
  rw [hW] at hp0 hg0
  go_enter Tryz.func24, Tryz.ntmps24
  go_upto_region 1 with fail

  have hb0 := hb.gr hg0
  obtain ⟨PB, hPB⟩ : ∃ PB, w.heap.size = PB := ⟨_, rfl⟩
  rw [hPB] at hp0 ⊢
  clear hPB hW hb
  obtain ⟨p0, p1, p2, -, -⟩ := hp0.two
  have qn : decide (64 < (n : Int)) = false := decide_eq_false (by omega)
  have qn' : decide (64 < n) = false := decide_eq_false (by omega)
  go_wp2
  go_loopw [20] (fun v wr => ∃ jj : Nat, jj ≤ 1 ∧ v = .int .i64 jj ∧ Gr W wr) (fun v _ => 1 - (RowKit.intOf v).toNat)
  case atStart => exact ⟨0, by omega, rfl, Gr.refl _⟩
  case round =>
    obtain ⟨jj, hjj, rfl, hg⟩ := hrel
    rcases (show jj = 0 ∨ jj = 1 by omega) with rfl | rfl
    · have hbr : wr.heap[MB]? = some (.cells ml.toArray 33 (0, 0)) := hb0.gr hg
      obtain ⟨k, hk⟩ : ∃ k, 141 = k := ⟨_, rfl⟩
      have aE : ∀ w, (isAgg 33).run Tryz.prog w = .ok true w := Tryz.isAgg33
      have zE : ∀ w, (Go.sizeOf 33).run Tryz.prog w = .ok k w := fun w => by rw [← hk]; exact Tryz.sizeOf33 w
      have hk0 : ¬ k = 0 := by omega
      have hlk : ml.length = k := hm.n.trans hk
      have st := st_fresh (P := Tryz.prog) wr 33 Tryz.zeroCells33 ml (by rw [hm.n]; exact infoMed1) (by rw [hm.n]; kernel_rfl) hm.one
      have hbx := Blk.new wr ml 33
      have y := hbx.lt
      have y140 := (hbx.cel.2 140 _ hm.c140).1
      have hgx : Gr wr (wr.alloc (.cells ml.toArray 33)) := (Gr.refl wr).alloc _
      replace hk := Lib.hid hk
      replace hbx := Lib.hid hbx
      go_wp2_with (first
        | ((with_reducible refine wpList_load_row ?_ 33 (.tmp 22) ?_ MB ?_ 33 ml.toArray (0, 0) _ hbr Tryz.underlying33 ?_ ?_ ?_); (· rfl); (· rfl); (· rfl); (· rfl); (· rw [List.size_toArray, hm.n]; exact infoMed1)))
      go_roundw
      case rel => exact ⟨1, by omega, by go_num, hg.trans hgx⟩
      case measure => simp [RowKit.intOf]
    · replace p0 := Nat.lt_of_lt_of_le p0 hg.size
      replace p1 := (hg.cells.1 PB 0 hp0.lt).trans p1
      replace p2 := (hg.cells.1 PB 1 hp0.lt).trans p2
      go_wp2
      go_loopw [32] (fun v wx => v = .int .i64 0 ∧ wr = wx) (fun v _ => 0)
      case atStart => exact ⟨rfl, rfl⟩
      case round =>
        obtain ⟨rfl, rfl⟩ := hrel
        go_wp2
        go_ret
        exact ⟨rfl, hg0.trans hg⟩
end Go.Proofs.YthadhmhbbfjomaaGreatDoor
