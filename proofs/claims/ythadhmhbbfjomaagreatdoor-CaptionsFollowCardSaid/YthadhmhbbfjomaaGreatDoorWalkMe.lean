/-
  Contract of Valid of package timeline at a project of one medium.
  Conditions: the medium's captions lie in memory and are valid.
-/
import Derived.Test.YthadhmhbbfjomaaGreatDoorWalkMd2
import Derived.Test.YthadhmhbbfjomaaGreatDoorWalkCu
namespace Go.Proofs.YthadhmhbbfjomaaGreatDoor
open Go.RowKit Go.Lib
set_option linter.unusedSimpArgs false
set_option linter.unusedVariables false

theorem tvalidD_idle (p : Addr) (w : World) :
    CallsD Tryz.prog 23 #[.pointer (some p)] .returning w fun e u' w' => e = .returned (.tuple #[]) ∧ u' = .returning ∧ w' = w := by
  refine callsD_of_wpS Tryz.func23 rfl fun c₀ cs hu => ?_
  apply wpS_seq
  apply wpS_region
  simp [wpOpsS, go_sem, recoverD, hu, Tryz.ntmps23, Exit.thenS]
  refine wpS_cond (t := false) (by simp [Act.eval, Array.replicate]) ?_
  simp only [Bool.false_eq_true, if_false]
  refine wpS_of_wp (wp_skip ?_)
  cases c₀
  simp_all [bodyPostS, results, Tryz.results23]
set_option maxRecDepth 20000 in
set_option maxHeartbeats 4000000 in
theorem tvalid_ok (MB mc : Nat) (ml : List Value) (nm : ByteArray) (fr : Int) (cv : Value) (cs : List Cu) (w : World) (hb : Blk w MB 33 ml) (hm : MedR ml nm fr cv) (HN : Hid (∀ w', Calls Tryz.prog 47 #[.string nm] w' fun e w'' => e = .returned (.bool true) ∧ Gr w' w'')) (hns : nm.size ≤ 1000000) (hfr : 0 ≤ fr ∧ fr ≤ 2147483647) (hC : Cues w cv cs) (hv : vCues cs = true) (hcn : cs.length ≤ 64) :
    Calls Tryz.prog 14 #[.agg #[.slice (some ⟨MB, 0, none⟩) 1 mc, .slice none 0 0]] w fun e w' => e = .returned (.int .i64 0) ∧ Gr w w' := by
  have hmf := hmf_any Tryz.prog
  have hmm := @run_makeMap Tryz.prog
  obtain ⟨ca, cap, rfl, -⟩ := hC.at_.shape
  have HL : Hid (∀ w', Gr w w' → Calls Tryz.prog 24 #[.agg #[.slice (some ⟨MB, 0, none⟩) 1 mc, .slice none 0 0]] w' fun e w'' => e = .returned (.bool false) ∧ Gr w' w'') := Lib.hid fun w' hg => toolarge_ok MB mc ml nm fr ca cs.length cap w' (hb.gr hg) hm hcn
  have HM : Hid (∀ w', Gr w w' → Calls Tryz.prog 25 #[.slice (some ⟨MB, 0, none⟩) 1 mc, .func (.func 26) #[] #[]] w' fun e w'' => e = .returned (.bool false) ∧ Gr w' w'') := Lib.hid fun w' hg => contains_medium MB mc ml w' (hb.gr hg) hm.n (Lib.hid fun w2 hg2 => medium_ok ml nm fr _ cs w2 hm HN hfr ((hC.gr hg).gr hg2) hv)
  have HS : Hid (∀ (fv : Value) w', Calls Tryz.prog 27 #[.slice none 0 0, fv] w' fun e w'' => e = .returned (.bool false) ∧ Gr w' w'') := Lib.hid contains_none
  have HC : Hid (∀ w', Gr w w' → Calls Tryz.prog 29 #[.agg #[.slice (some ⟨MB, 0, none⟩) 1 mc, .slice none 0 0]] w' fun e w'' => ∃ (b1 b2 n1 : Nat) (D1 : DataW Value), e = .returned (.agg #[.map (some b1), .map (some b2)]) ∧ Gr w' w'' ∧ MapO w'' b1 n1 D1 ∧ Maps.size D1 = 1 ∧ MapO w'' b2 0 (.map [])) := Lib.hid fun w' hg => catalogue_ok MB mc ml nm fr _ w' (hb.gr hg) hm hns
  clear hb hm hns hfr hC hv hcn HN
  have hp0 := (Blk.new w [.slice (some ⟨MB, 0, none⟩) 1 mc, .slice none 0 0] 37).gr ((Gr.refl _).alloc (.cells #[.int .i64 0] 41))
  have hz0 := Blk.new (w.alloc (.cells #[.slice (some ⟨MB, 0, none⟩) 1 mc, .slice none 0 0] 37)) [.int .i64 0] 41
  rw [show (w.alloc (.cells #[.slice (some ⟨MB, 0, none⟩) 1 mc, .slice none 0 0] 37)).heap.size = w.heap.size + 1 by simp] at hz0
  have hg0 : Gr w ((w.alloc (.cells #[.slice (some ⟨MB, 0, none⟩) 1 mc, .slice none 0 0] 37)).alloc (.cells #[.int .i64 0] 41)) := ((Gr.refl w).alloc _).alloc _
  go_enter_defers Tryz.func14, Tryz.ntmps14
  go_upto_region 2 with fail
  generalize (w.alloc (.cells #[.slice (some ⟨MB, 0, none⟩) 1 mc, .slice none 0 0] 37)).alloc (.cells #[.int .i64 0] 41) = W0 at *
  have p0 := hp0.lt
  have p1 := (hp0.cel.2 0 _ rfl).1
  have p2 := (hp0.cel.2 1 _ rfl).1
  go_upto_region 7 with (first
    | (go_at_call 24; (with_reducible refine (HL.out _ hg0).mono ?_); rintro e w1 ⟨rfl, hg1⟩; have hgw1 := hg0.trans hg1; have hp1 := hp0.gr hg1; have a0 := hp1.lt; have a1 := (hp1.cel.2 0 _ rfl).1)
    | (go_at_call 25; (with_reducible refine (HM.out _ hgw1).mono ?_); rintro e w2 ⟨rfl, hg2⟩; have hgw2 := hgw1.trans hg2; have hp2 := hp1.gr hg2; have f0 := hp2.lt; have f2 := (hp2.cel.2 1 _ rfl).1)
    | (go_at_call 27; (with_reducible refine (HS.out _ _).mono ?_); rintro e w3 ⟨rfl, hg3⟩; have hgw3 := hgw2.trans hg3; have hp3 := hp2.gr hg3; have c0 := hp3.lt; have c1 := (hp3.cel.2 0 _ rfl).1; have c2 := (hp3.cel.2 1 _ rfl).1)
    | (go_at_call 29; (with_reducible refine (HC.out _ hgw3).mono ?_); rintro e w4 ⟨b1, b2, n1, D1, rfl, hg4, hM1, hD1, hM2⟩))
  have hc4 := Blk.new w4 [.map (some b1), .map (some b2)] 83
  have hgA : Gr w4 (w4.alloc (.cells #[.map (some b1), .map (some b2)] 83)) := (Gr.refl w4).alloc _
  have hg5 := (hgw3.trans hg4).trans hgA
  have hp5 := (hp3.gr hg4).gr hgA
  have hz5 := ((((hz0.gr hg1).gr hg2).gr hg3).gr hg4).gr hgA
  have hl1 := World.ownsMap.len (MapO.gr hgA hM1) Tryz.underlying80 3
  have hl2 := World.ownsMap.len (MapO.gr hgA hM2) Tryz.underlying81 3
  rw [hD1] at hl1
  rw [show Maps.size (DataW.map [] : DataW Value) = 0 from rfl] at hl2
  clear a0 a1 f0 f2 c0 c1 c2 p0 p1 p2 hp0 hz0 hg0 hg1 hg2 hg3 hg4 hp1 hp2 hp3 hgw1 hgw2 hgw3 hgA hM1 hM2 HL HM HS HC hD1
  generalize w4.alloc (.cells #[.map (some b1), .map (some b2)] 83) = W5 at *
  generalize w4.heap.size = CB at *
  have p0 := hp5.lt
  have p1 := (hp5.cel.2 0 _ rfl).1
  have p2 := (hp5.cel.2 1 _ rfl).1
  have c0 := hc4.lt
  have c1 := (hc4.cel.2 0 _ rfl).1
  have c2 := (hc4.cel.2 1 _ rfl).1
  have z0 := hz5.lt
  obtain ⟨z1, z2⟩ := hz5.cel.one
  go_wp2
  go_loopw [43] (fun v wx => v = .int .i64 0 ∧ W5 = wx) (fun v _ => 0)
  case atStart => exact ⟨rfl, rfl⟩
  case round =>
    obtain ⟨rfl, rfl⟩ := hrel
    go_wp2
    have hgM : Gr W5 (W5.alloc (.map #[] 0)) := (Gr.refl W5).alloc _
    have hg6 := hg5.trans hgM
    have hp6 := hp5.gr hgM
    have hz6 := hz5.gr hgM
    clear hl1 hl2 c0 c1 c2 hc4 p0 p1 p2 z0 z1 z2 hp5 hz5 hg5 hgM
    have hp6' : Blk (W5.alloc (.map #[] 0)) w.heap.size 37 [.slice (some ⟨MB, 0, none⟩) 1 mc, .slice none 0 0] := hp6
    generalize W5.alloc (.map #[] 0) = W6 at *
    have p0 := hp6.lt
    have p2 := (hp6.cel.2 1 _ rfl).1
    have z0 := hz6.lt
    obtain ⟨z1, z2⟩ := hz6.cel.one
    go_loopw [56] (fun v wx => v = .int .i64 0 ∧ W6 = wx) (fun v _ => 0)
    case atStart => exact ⟨rfl, rfl⟩
    case round =>
      obtain ⟨rfl, rfl⟩ := hrel
      go_wp2
      go_loopw [70] (fun v wx => v = .int .i64 0 ∧ W6 = wx) (fun v _ => 0)
      case atStart => exact ⟨rfl, rfl⟩
      case round =>
        obtain ⟨rfl, rfl⟩ := hrel
        go_wp2
        refine leaves_cons (f := 23) (args := #[.pointer (some ⟨w.heap.size + 1, 0, none⟩)]) (by simp) (by simp [go_sem]) ?_
        refine (tvalidD_idle _ _).mono ?_
        rintro e u' w'' ⟨rfl, rfl, rfl⟩
        simp [Leaves, settle, results, Tryz.results14, go_sem, z0, z1]
        exact hg6.setCell (by simp) _
end Go.Proofs.YthadhmhbbfjomaaGreatDoor
