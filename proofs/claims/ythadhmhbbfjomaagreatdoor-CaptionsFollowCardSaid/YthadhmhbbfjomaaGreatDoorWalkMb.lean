/-
  Contracts of malformedMedium and of a search through one medium in package timeline.
  Conditions: the medium's captions lie in memory and are valid.
-/
import Derived.Test.YthadhmhbbfjomaaGreatDoorWalkMa
import Derived.Deep.CutBlock
namespace Go.Proofs.YthadhmhbbfjomaaGreatDoor
open Go.RowKit Go.Lib
set_option linter.unusedSimpArgs false
set_option linter.unusedVariables false

/-- the cells of a medium whose fields are good: name, rate 25, frames, no sound, captions -/
structure MedR (ml : List Value) (nm : ByteArray) (fr : Int) (cv : Value) : Prop where
  n : ml.length = 141
  one : ∀ v ∈ ml, v.oneCell' = true
  c0 : ml[0]? = some (.string nm)
  c4 : ml[4]? = some (.int .i64 25)
  c5 : ml[5]? = some (.int .i64 1)
  c137 : ml[137]? = some (.int .i64 fr)
  c138 : ml[138]? = some (.int .i64 0)
  c139 : ml[139]? = some (.int .i64 0)
  c140 : ml[140]? = some cv
set_option maxRecDepth 20000 in
set_option maxHeartbeats 2000000 in
theorem medium_ok (ml : List Value) (nm : ByteArray) (fr : Int) (cv : Value) (cs : List Cu) (w : World) (hm : MedR ml nm fr cv) (HN : Hid (∀ w', Calls Tryz.prog 47 #[.string nm] w' fun e w'' => e = .returned (.bool true) ∧ Gr w' w'')) (hfr : 0 ≤ fr ∧ fr ≤ 2147483647) (hC : Cues w cv cs) (hv : vCues cs = true) :
    Calls Tryz.prog 26 #[.agg ml.toArray] w fun e w' => e = .returned (.bool false) ∧ Gr w w' := by
  have HR : Hid (∀ w', Calls Tryz.prog 48 #[.agg #[.int .i64 25, .int .i64 1]] w' fun e w'' => e = .returned (.bool true) ∧ Gr w' w'') := Lib.hid fun w' => rate_25 w'
  have HF : Hid (∀ w', Calls Tryz.prog 49 #[.int .i64 fr] w' fun e w'' => e = .returned (.bool true) ∧ Gr w' w'') := Lib.hid fun w' => count_any fr w' hfr
  have HZ : Hid (∀ w', Calls Tryz.prog 49 #[.int .i64 0] w' fun e w'' => e = .returned (.bool true) ∧ Gr w' w'') := Lib.hid fun w' => count_any 0 w' (by omega)
  have HH : Hid (∀ w', Calls Tryz.prog 50 #[.int .i64 0] w' fun e w'' => e = .returned (.bool true) ∧ Gr w' w'') := Lib.hid fun w' => chan_zero w'
  obtain ⟨a, cap, rfl, -⟩ := hC.at_.shape
  have HV : Hid (∀ w', Gr w w' → Calls Tryz.prog 51 #[.slice a cs.length cap] w' fun e w'' => e = .returned (.bool true) ∧ Gr w' w'') := Lib.hid fun w' hg => by rw [← hv]; exact tvalid_any _ cs w' (hC.gr hg)
  have hb := Cel.new w ml.toArray 33
  have hg0 : Gr w (w.alloc (.cells ml.toArray 33)) := (Gr.refl w).alloc _
  simp only [List.toList_toArray] at hb
  have x := hb.lt
  have x0 := (hb.2 0 _ hm.c0).1
  replace hm := Lib.hid hm
  clear hC hv hfr
  go_enter Tryz.func26, Tryz.ntmps26
  go_wp2_with (first
    | (go_at_call 47; (with_reducible refine (HN.out _).mono ?_); rintro e w1 ⟨rfl, hg1⟩; have hb1 := hb.gr hg1; have a0 := hb1.lt; have a4 := (hb1.2 4 _ hm.out.c4).1; have a5 := (hb1.2 5 _ hm.out.c5).1)
    | (go_at_call 48; (with_reducible refine (HR.out _).mono ?_); rintro e w2 ⟨rfl, hg2⟩; have hb2 := hb1.gr hg2; have b0 := hb2.lt; have b7 := (hb2.2 137 _ hm.out.c137).1)
    | (go_at_call 49; (with_reducible refine (HF.out w2).mono ?_); rintro e w3 ⟨rfl, hg3⟩; have hb3 := hb2.gr hg3; have c0 := hb3.lt; have c9 := (hb3.2 139 _ hm.out.c139).1)
    | (go_at_call 49; (with_reducible refine (HZ.out w3).mono ?_); rintro e w4 ⟨rfl, hg4⟩; have hb4 := hb3.gr hg4; have d0 := hb4.lt; have d8 := (hb4.2 138 _ hm.out.c138).1)
    | (go_at_call 50; (with_reducible refine (HH.out _).mono ?_); rintro e w5 ⟨rfl, hg5⟩; have hb5 := hb4.gr hg5; have e0 := hb5.lt; have e40 := (hb5.2 140 _ hm.out.c140).1)
    | (go_at_call 51; (with_reducible refine (HV.out _ (((((hg0.trans hg1).trans hg2).trans hg3).trans hg4).trans hg5)).mono ?_); rintro e w6 ⟨rfl, hg6⟩))
  go_ret
  exact ⟨rfl, (((((hg0.trans hg1).trans hg2).trans hg3).trans hg4).trans hg5).trans hg6⟩
theorem infoMed1 : (Tryz.prog.info? 33).map (·.size) = some 141 := by kernel_rfl
set_option maxRecDepth 20000 in
set_option maxHeartbeats 2000000 in
theorem idx_medium (MB mc : Nat) (ml : List Value) (w : World) (hb : Blk w MB 33 ml) (hn : ml.length = 141)
    (HM : Hid (∀ w', Gr w w' → Calls Tryz.prog 26 #[.agg ml.toArray] w' fun e w'' => e = .returned (.bool false) ∧ Gr w' w'')) :
    Calls Tryz.prog 46 #[.slice (some ⟨MB, 0, none⟩) 1 mc, .func (.func 26) #[] #[]] w fun e w' => e = .returned (.int .i64 (-1)) ∧ Gr w w' := by
  have hr : w.heap[MB]? = some (.cells ml.toArray 33 (0, 0)) := hb
  go_enter Tryz.func46, Tryz.ntmps46
  go_wp2
  go_loopw [8] (fun v wr => ∃ jj : Nat, jj ≤ 1 ∧ v = .int .i64 jj ∧ Gr w wr) (fun v _ => 1 - (RowKit.intOf v).toNat)
  case atStart => exact ⟨0, by omega, rfl, Gr.refl _⟩
  case round =>
    obtain ⟨jj, hjj, rfl, hg⟩ := hrel
    rcases (show jj = 0 ∨ jj = 1 by omega) with rfl | rfl
    · have hbr : wr.heap[MB]? = some (.cells ml.toArray 33 (0, 0)) := hb.gr hg
      go_wp2_with (first
        | ((with_reducible refine wpList_load_row ?_ 33 (.tmp 14) ?_ MB ?_ 33 ml.toArray (0, 0) _ hbr Tryz.underlying33 ?_ ?_ ?_); (· rfl); (· rfl); (· rfl); (· rfl); (· rw [List.size_toArray, hn]; exact infoMed1))
        | (go_at_call 26; (with_reducible refine (HM.out _ hg).mono ?_); rintro e w2 ⟨rfl, hg2⟩))
      go_roundw
      case rel => exact ⟨1, by omega, by go_num, hg.trans hg2⟩
      case measure => simp [RowKit.intOf]
    · go_wp2
      go_ret
      exact ⟨rfl, hg⟩
theorem contains_medium (MB mc : Nat) (ml : List Value) (w : World) (hb : Blk w MB 33 ml) (hn : ml.length = 141)
    (HM : Hid (∀ w', Gr w w' → Calls Tryz.prog 26 #[.agg ml.toArray] w' fun e w'' => e = .returned (.bool false) ∧ Gr w' w'')) :
    Calls Tryz.prog 25 #[.slice (some ⟨MB, 0, none⟩) 1 mc, .func (.func 26) #[] #[]] w fun e w' => e = .returned (.bool false) ∧ Gr w w' := by
  have HI := Lib.hid (idx_medium MB mc ml w hb hn HM)
  go_enter Tryz.func25, Tryz.ntmps25
  go_wp2_with (go_at_call 46; (with_reducible refine HI.out.mono ?_); rintro e w2 ⟨rfl, hg2⟩)
  go_ret
  exact ⟨rfl, hg2⟩
theorem idx_none (fv : Value) (w : World) : Calls Tryz.prog 52 #[.slice none 0 0, fv] w fun e w' => e = .returned (.int .i64 (-1)) ∧ Gr w w' := by
  go_enter Tryz.func52, Tryz.ntmps52
  go_wp2
  go_loopw [8] (fun v wr => v = .int .i64 0 ∧ w = wr) (fun v _ => 0)
  case atStart => exact ⟨rfl, rfl⟩
  case round =>
    obtain ⟨rfl, rfl⟩ := hrel
    go_wp2
    go_ret
    exact ⟨rfl, Gr.refl _⟩
theorem contains_none (fv : Value) (w : World) : Calls Tryz.prog 27 #[.slice none 0 0, fv] w fun e w' => e = .returned (.bool false) ∧ Gr w w' := by
  have HI := Lib.hid (idx_none fv w)
  go_enter Tryz.func27, Tryz.ntmps27
  go_wp2_with (go_at_call 52; (with_reducible refine HI.out.mono ?_); rintro e w2 ⟨rfl, hg2⟩)
  go_ret
  exact ⟨rfl, hg2⟩
end Go.Proofs.YthadhmhbbfjomaaGreatDoor
