/-
  Contract of catalogueOf of package timeline at a project of one medium.
  Conditions: none.
-/
import Derived.Test.YthadhmhbbfjomaaGreatDoorWalkMc
import Derived.Test.YthadhmhbbfjomaaGreatDoorMapV
namespace Go.Proofs.YthadhmhbbfjomaaGreatDoor
open Go.RowKit Go.Lib
set_option linter.unusedSimpArgs false
set_option linter.unusedVariables false

set_option maxRecDepth 20000 in
set_option maxHeartbeats 2000000 in
theorem catalogue_ok (MB mc : Nat) (ml : List Value) (nm : ByteArray) (fr : Int) (cv : Value) (w : World) (hb : Blk w MB 33 ml) (hm : MedR ml nm fr cv) (hns : nm.size ≤ 1000000) :
    Calls Tryz.prog 29 #[.agg #[.slice (some ⟨MB, 0, none⟩) 1 mc, .slice none 0 0]] w fun e w' => ∃ (b1 b2 n1 : Nat) (D1 : DataW Value), e = .returned (.agg #[.map (some b1), .map (some b2)]) ∧ Gr w w' ∧ MapO w' b1 n1 D1 ∧ Maps.size D1 = 1 ∧ MapO w' b2 0 (.map []) := by
  have hmm := @run_makeMap Tryz.prog
  have s1 : (w.alloc (.cells #[.slice (some ⟨MB, 0, none⟩) 1 mc, .slice none 0 0] 37)).heap.size = w.heap.size + 1 := by simp
  have s2 : ((w.alloc (.cells #[.slice (some ⟨MB, 0, none⟩) 1 mc, .slice none 0 0] 37)).alloc (.cells #[.map none, .map none] 83)).heap.size = w.heap.size + 1 + 1 := by simp
  have s3 : (((w.alloc (.cells #[.slice (some ⟨MB, 0, none⟩) 1 mc, .slice none 0 0] 37)).alloc (.cells #[.map none, .map none] 83)).alloc (.map #[] 0)).heap.size = w.heap.size + 1 + 1 + 1 := by simp
  have s4 : ((((w.alloc (.cells #[.slice (some ⟨MB, 0, none⟩) 1 mc, .slice none 0 0] 37)).alloc (.cells #[.map none, .map none] 83)).alloc (.map #[] 0)).alloc (.map #[] 0)).heap.size = w.heap.size + 1 + 1 + 1 + 1 := by simp
  have g5 : Gr ((((w.alloc (.cells #[.slice (some ⟨MB, 0, none⟩) 1 mc, .slice none 0 0] 37)).alloc (.cells #[.map none, .map none] 83)).alloc (.map #[] 0)).alloc (.map #[] 0)) (((((w.alloc (.cells #[.slice (some ⟨MB, 0, none⟩) 1 mc, .slice none 0 0] 37)).alloc (.cells #[.map none, .map none] 83)).alloc (.map #[] 0)).alloc (.map #[] 0)).alloc (.cells #[.map (some (w.heap.size + 1 + 1)), .map (some (w.heap.size + 1 + 1 + 1))] 83)) := (Gr.refl _).alloc _
  have g4 : Gr (((w.alloc (.cells #[.slice (some ⟨MB, 0, none⟩) 1 mc, .slice none 0 0] 37)).alloc (.cells #[.map none, .map none] 83)).alloc (.map #[] 0)) (((((w.alloc (.cells #[.slice (some ⟨MB, 0, none⟩) 1 mc, .slice none 0 0] 37)).alloc (.cells #[.map none, .map none] 83)).alloc (.map #[] 0)).alloc (.map #[] 0)).alloc (.cells #[.map (some (w.heap.size + 1 + 1)), .map (some (w.heap.size + 1 + 1 + 1))] 83)) := ((Gr.refl _).alloc _).trans g5
  have g3 : Gr ((w.alloc (.cells #[.slice (some ⟨MB, 0, none⟩) 1 mc, .slice none 0 0] 37)).alloc (.cells #[.map none, .map none] 83)) (((((w.alloc (.cells #[.slice (some ⟨MB, 0, none⟩) 1 mc, .slice none 0 0] 37)).alloc (.cells #[.map none, .map none] 83)).alloc (.map #[] 0)).alloc (.map #[] 0)).alloc (.cells #[.map (some (w.heap.size + 1 + 1)), .map (some (w.heap.size + 1 + 1 + 1))] 83)) := ((Gr.refl _).alloc _).trans g4
  have g2 : Gr (w.alloc (.cells #[.slice (some ⟨MB, 0, none⟩) 1 mc, .slice none 0 0] 37)) (((((w.alloc (.cells #[.slice (some ⟨MB, 0, none⟩) 1 mc, .slice none 0 0] 37)).alloc (.cells #[.map none, .map none] 83)).alloc (.map #[] 0)).alloc (.map #[] 0)).alloc (.cells #[.map (some (w.heap.size + 1 + 1)), .map (some (w.heap.size + 1 + 1 + 1))] 83)) := ((Gr.refl _).alloc _).trans g3
  have g1 : Gr w (((((w.alloc (.cells #[.slice (some ⟨MB, 0, none⟩) 1 mc, .slice none 0 0] 37)).alloc (.cells #[.map none, .map none] 83)).alloc (.map #[] 0)).alloc (.map #[] 0)).alloc (.cells #[.map (some (w.heap.size + 1 + 1)), .map (some (w.heap.size + 1 + 1 + 1))] 83)) := ((Gr.refl _).alloc _).trans g2
  have hP := (Blk.new w [.slice (some ⟨MB, 0, none⟩) 1 mc, .slice none 0 0] 37).gr g2
  have hR := (Blk.new (w.alloc (.cells #[.slice (some ⟨MB, 0, none⟩) 1 mc, .slice none 0 0] 37)) [.map none, .map none] 83).gr g3
  have hM1 := (MapO.new ((w.alloc (.cells #[.slice (some ⟨MB, 0, none⟩) 1 mc, .slice none 0 0] 37)).alloc (.cells #[.map none, .map none] 83))).gr g4
  have hM2 := (MapO.new (((w.alloc (.cells #[.slice (some ⟨MB, 0, none⟩) 1 mc, .slice none 0 0] 37)).alloc (.cells #[.map none, .map none] 83)).alloc (.map #[] 0))).gr g5
  have hC := Blk.new ((((w.alloc (.cells #[.slice (some ⟨MB, 0, none⟩) 1 mc, .slice none 0 0] 37)).alloc (.cells #[.map none, .map none] 83)).alloc (.map #[] 0)).alloc (.map #[] 0)) [.map (some (w.heap.size + 1 + 1)), .map (some (w.heap.size + 1 + 1 + 1))] 83
  have hB := hb.gr g1
  rw [s1] at hR
  rw [s2] at hM1
  rw [s3] at hM2
  rw [s4] at hC
  clear s1 s2 s3 s4 g5 g4 g3 g2
  have hMB : MB < w.heap.size := hb.lt
  go_enter Tryz.func29, Tryz.ntmps29
  go_upto_region 2 with fail
  generalize (((((w.alloc (.cells #[.slice (some ⟨MB, 0, none⟩) 1 mc, .slice none 0 0] 37)).alloc (.cells #[.map none, .map none] 83)).alloc (.map #[] 0)).alloc (.map #[] 0)).alloc (.cells #[.map (some (w.heap.size + 1 + 1)), .map (some (w.heap.size + 1 + 1 + 1))] 83)) = V at *
  obtain ⟨PB, hPB⟩ : ∃ PB, w.heap.size = PB := ⟨_, rfl⟩
  rw [hPB] at hP hR hM1 hM2 hC hMB ⊢
  replace hPB := Lib.hid hPB
  have p0 := hP.lt
  have p1 := (hP.cel.2 0 _ rfl).1
  go_wp2
  go_loopw [14] (fun v wr => ∃ jj : Nat, jj ≤ 1 ∧ v = .int .i64 jj ∧ Gr w wr ∧ Blk wr PB 37 [.slice (some ⟨MB, 0, none⟩) 1 mc, .slice none 0 0] ∧ Blk wr (PB + 1) 83 [.map none, .map none] ∧ Blk wr (PB + 1 + 1 + 1 + 1) 83 [.map (some (PB + 1 + 1)), .map (some (PB + 1 + 1 + 1))] ∧ Blk wr MB 33 ml ∧ MapO wr (PB + 1 + 1 + 1) 0 (.map []) ∧ (jj = 0 → MapO wr (PB + 1 + 1) 0 (.map [])) ∧ (jj = 1 → ∃ D1, MapO wr (PB + 1 + 1) 1 D1 ∧ Maps.size D1 = 1)) (fun v _ => 1 - (RowKit.intOf v).toNat)
  case atStart => exact ⟨0, by omega, rfl, g1, hP, hR, hC, hB, hM2, fun _ => hM1, fun h => by omega⟩
  case round =>
    obtain ⟨jj, hjj, rfl, hg, hPr, hRr, hCr, hBr, hM2r, hz, ho⟩ := hrel
    clear g1 hP hR hM1 hM2 hC hB p0 p1
    rcases (show jj = 0 ∨ jj = 1 by omega) with rfl | rfl
    · have hM1r := hz rfl
      clear hz ho
      have hbr : wr.heap[MB]? = some (.cells ml.toArray 33 (0, 0)) := hBr
      obtain ⟨k, hk⟩ : ∃ k, 141 = k := ⟨_, rfl⟩
      have aE : ∀ w, (isAgg 33).run Tryz.prog w = .ok true w := Tryz.isAgg33
      have zE : ∀ w, (Go.sizeOf 33).run Tryz.prog w = .ok k w := fun w => by rw [← hk]; exact Tryz.sizeOf33 w
      have hk0 : ¬ k = 0 := by omega
      have hlk : ml.length = k := hm.n.trans hk
      have st := st_fresh (P := Tryz.prog) wr 33 Tryz.zeroCells33 ml (by rw [hm.n]; exact infoMed1) (by rw [hm.n]; kernel_rfl) hm.one
      have hbx := Blk.new wr ml 33
      have hgx : Gr wr (wr.alloc (.cells ml.toArray 33)) := (Gr.refl wr).alloc _
      have hxr : (wr.alloc (.cells ml.toArray 33)).heap[wr.heap.size]? = some (.cells ml.toArray 33 (0, 0)) := hbx
      have y := hbx.lt
      have y0 := (hbx.cel.2 0 _ hm.c0).1
      have hC2 := hCr.gr hgx
      have z := hC2.lt
      have z0 := (hC2.cel.2 0 _ rfl).1
      have hM1x := hM1r.gr hgx
      replace hk := Lib.hid hk
      go_wp2_with (first
        | ((with_reducible refine wpList_load_row ?_ 33 (.tmp 16) ?_ MB ?_ 33 ml.toArray (0, 0) _ hbr Tryz.underlying33 ?_ ?_ ?_); (· rfl); (· rfl); (· rfl); (· rfl); (· rw [List.size_toArray, hm.n]; exact infoMed1))
        | ((with_reducible refine wpList_load_row ?_ 33 (.tmp 5) ?_ wr.heap.size ?_ 33 ml.toArray (0, 0) _ hxr Tryz.underlying33 ?_ ?_ ?_); (· rfl); (· rfl); (· rfl); (· rfl); (· rw [List.size_toArray, hm.n]; exact infoMed1))
        | (at_mapUpdate; refine wpList_mapUpdate_own _ rfl _ _ _ 80 rfl 9 33 keyed_str Tryz.underlying80 heldR (PB + 1 + 1) 0 (.map []) rfl hM1x (by unfold maxLen; omega) (.string nm) (.agg ml.toArray) (Lit.string nm.data.toList) rfl rfl (MapO.key nm (by unfold maxLen; omega)) (.held (.agg ml.toArray)) [] rfl ?_; intro w9 hown9 hgrow9))
      have hlt := hBr.lt
      have hgr9 : Gr w w9 := (hg.trans hgx).grown hgrow9 (fun k hk => by have e := hPB.out; injection hk with hk; omega)
      have hne : ∀ b, b ≠ PB + 1 + 1 → (some (PB + 1 + 1) : Option Nat) ≠ some b := fun b hb e => hb (by injection e with e; exact e.symm)
      refine ⟨⟨1, by omega, rfl, hgr9, (hPr.gr hgx).grown hgrow9 (hne _ (by omega)), (hRr.gr hgx).grown hgrow9 (hne _ (by omega)), hC2.grown hgrow9 (hne _ (by omega)), (hBr.gr hgx).grown hgrow9 (hne _ (by omega)), (hM2r.gr hgx).grown hgrow9 (hne _ (by omega)), fun h => by omega, fun _ => ⟨_, hown9, rfl⟩⟩, by simp [RowKit.intOf]⟩
    · obtain ⟨D1, hD1, hD2⟩ := ho rfl
      clear hz ho
      have p0 := hPr.lt
      have p2 := (hPr.cel.2 1 _ rfl).1
      have z := hCr.lt
      have z0 := (hCr.cel.2 0 _ rfl).1
      have z1 := (hCr.cel.2 1 _ rfl).1
      have r0 := hRr.lt
      obtain ⟨r1, v1⟩ := hRr.cel.2 0 _ rfl
      obtain ⟨r2, v2⟩ := hRr.cel.2 1 _ rfl
      go_wp2
      go_loopw [27] (fun v wx => v = .int .i64 0 ∧ wr = wx) (fun v _ => 0)
      case atStart => exact ⟨rfl, rfl⟩
      case round =>
        obtain ⟨rfl, rfl⟩ := hrel
        go_wp2
        simp [-Bool.exists_bool, -Bool.forall_bool, bodyPost, results, Tryz.results29, go_sem, r0, r1, r2]
        have e := hPB.out
        refine ⟨_, _, ⟨rfl, rfl⟩, ?_, 1, D1, ?_, hD2, ?_⟩
        · repeat (first | (with_reducible exact hg) | (with_reducible refine Gr.setCell ?_ (by simp; omega) _))
        · exact (hD1.other (p := ⟨PB + 1, 0, none⟩) (by simp) _).other (p := ⟨PB + 1, 1, none⟩) (by simp) _
        · exact (hM2r.other (p := ⟨PB + 1, 0, none⟩) (by simp) _).other (p := ⟨PB + 1, 1, none⟩) (by simp) _
end Go.Proofs.YthadhmhbbfjomaaGreatDoor
