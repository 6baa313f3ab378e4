import Derived.Test.YtckmebfgianeoaaDoorLawCuts
import Derived.Test.YtckmebfgianeoaaDoorMathR
import Derived.Test.YtckmebfgianeoaaDoorMathU
import Derived.Test.YtckmebfgianeoaaDoorWalkRu
import Derived.Test.YtckmebfgianeoaaDoorReg6
import Derived.Test.YtckmebfgianeoaaDoorWalkRy
import Derived.Test.YtckmebfgianeoaaDoorDoor29
import Derived.Test.YtckmebfgianeoaaDoorOpen29
import Derived.Test.YtckmebfgianeoaaDoorOpen
import Derived.Test.YtckmebfgianeoaaDoorLift
import Derived.Test.YtckmebfgianeoaaDoorCards
import Derived.Test.YtckmebfgianeoaaDoorTie
import Derived.ChangeMaps5
import Derived.OpenShut
import Derived.Stop.Joined
import Derived.SevenTiedAt
/-
  Walk of the law CaptionsRepairs.
  Conditions: the captions and the numbers lie in memory.
-/
namespace Go.Proofs.YtckmebfgianeoaaDoor
open Go.RowKit Go.Lib
set_option linter.unusedSimpArgs false
set_option linter.unusedVariables false

/-- what Repair hands back -/
def repB3 (cs : List Cu) (r : Ru) (e : Int) : Bool := vCues cs && ruB r && decide (0 ≤ e ∧ e ≤ 2147483647)
def repE (cs : List Cu) (r : Ru) (e : Int) : Int := if repB3 cs r e then 0 else 1
def RepR (cs : List Cu) (r : Ru) (e : Int) (cs2 : List Cu) : Prop := if repB3 cs r e then ∃ ts, IsSt cs ts ∧ cs2.map cAbs = repGo r e 0 ((ts.map Prod.fst).map cAbs) else cs2.map cAbs = []
theorem RepR.unique {cs c1 c2 : List Cu} {r : Ru} {e : Int} (h1 : RepR cs r e c1) (h2 : RepR cs r e c2) : c1.map cAbs = c2.map cAbs := by
  unfold RepR at h1 h2
  split at h1
  · rename_i h
    rw [if_pos h] at h2
    obtain ⟨t1, a1, b1⟩ := h1
    obtain ⟨t2, a2, b2⟩ := h2
    rw [b1, b2, a1.unique a2]
  · rename_i h
    rw [if_neg h] at h2
    rw [h1, h2]
set_option maxRecDepth 20000 in
set_option maxHeartbeats 4000000 in
theorem lawReps_core (H1 : ∀ (v : Value) (cs : List Cu) (r : Ru) (e : Int) (w : World), Cues w v cs → Calls Tryd.prog 33 #[v, r.val, .int .i64 e] w fun en w' => ∃ v' cs', en = .returned (.tuple #[v', .int .i64 (repE cs r e)]) ∧ Gr w w' ∧ Cues w' v' cs' ∧ RepR cs r e cs')
    (H2 : ∀ (v : Value) (cs : List Cu) (r : Ru) (e : Int) (w : World), Cues w v cs → Calls Tryd.prog 34 #[v, r.val, .int .i64 e] w fun en w' => ∃ v' cs', en = .returned (.tuple #[v', .int .i64 (repE cs r e)]) ∧ Gr w w' ∧ Cues w' v' cs' ∧ RepR cs r e cs')
    (rv : Value) (rcs : List Cu) (a : Option Addr) (cap : Nat) (xs : List Int) (r0 r1 r2 r3 en : Int) (w : World) (hR : Cues w rv rcs) (hA : TapeArg w a cap xs) (hT : Pow w) :
    Calls Tryd.prog 10 #[rv, .slice a xs.length cap, .agg #[.int .i64 r0, .int .i64 r1, .int .i64 r2, .int .i64 r3], .int .i64 en] w fun e w' => e = .returned (.bool true) ∧ Gr w w' := by
  have HM : Hid (∀ w', Gr w w' → Calls Tryd.prog 13 #[.slice a xs.length cap] w' fun e w'' => ∃ v cs, e = .returned v ∧ Gr w' w'' ∧ Cues w'' v cs ∧ Made cs) := fun w' hg => made_any a cap xs w' (hA.gr hg)
  have HW : Hid (∀ w', Gr w w' → Calls Tryd.prog 17 #[] w' fun e w'' => e = .returned (.bool true) ∧ Gr w' w'') := fun w' hg => awake_any w' (Pow.gr hg hT)
  have H1 := Lib.hid H1
  have H2 := Lib.hid H2
  obtain ⟨ra, rc, rfl, rh⟩ := hR.at_.shape
  clear rh
  have hR := Lib.hid hR
  have hB := (hA.gr ((Gr.refl w).alloc (.cells #[.int .i64 r0, .int .i64 r1, .int .i64 r2, .int .i64 r3] 57))).box 60
  rw [show (w.alloc (.cells #[.int .i64 r0, .int .i64 r1, .int .i64 r2, .int .i64 r3] 57)).heap.size = w.heap.size + 1 by simp] at hB
  have HN : Hid (∀ (w' : World) (k' : Nat) (n : Int), Tape w' (w.heap.size + 1) a cap xs k' → k' ≤ 1000000 → 1 ≤ n → n ≤ 2147483647 → Calls Tryd.prog 32 #[.pointer (some ⟨w.heap.size + 1, 0, none⟩), .int .i64 n] w' fun e w'' => ∃ r : Int, e = .returned (.int .i64 r) ∧ 0 ≤ r ∧ r < n ∧ w'.grownBy w'' (some (w.heap.size + 1)) ∧ Tape w'' (w.heap.size + 1) a cap xs (k' + 1)) := fun w' k' n h1 h2 h3 h4 => next_any _ a cap xs k' n w' h1 h2 h3 h4
  have hB := Lib.hid hB
  go_enter Tryd.func10, Tryd.ntmps10
  go_wp2_with (first
    | (go_at_call 32; (with_reducible refine (HN.out _ 0 6 hB.out ?_ ?_ ?_).mono ?_); (· omega); (· omega); (· omega); rintro e w1 ⟨m1, rfl, m1l, m1h, hg1, hT1⟩)
    | (go_at_call 32; (with_reducible refine (HN.out _ 1 4 hT1 ?_ ?_ ?_).mono ?_); (· omega); (· omega); (· omega); rintro e w2 ⟨m2, rfl, m2l, m2h, hg2, hT2⟩)
    | (go_at_call 32; (with_reducible refine (HN.out _ 2 30 hT2 ?_ ?_ ?_).mono ?_); (· omega); (· omega); (· omega); rintro e w3 ⟨m3, rfl, m3l, m3h, hg3, hT3⟩))
  have hgA : Gr w ((w.alloc (.cells #[.int .i64 r0, .int .i64 r1, .int .i64 r2, .int .i64 r3] 57)).alloc (.cells #[.slice a xs.length cap, .int .i64 0] 60)) := ((Gr.refl w).alloc _).alloc _
  have kR := (((((Cel.new w #[.int .i64 r0, .int .i64 r1, .int .i64 r2, .int .i64 r3] 57).alloc (.cells #[.slice a xs.length cap, .int .i64 0] 60)).grown hg1 (by simp)).grown hg2 (by simp)).grown hg3 (by simp)).alloc (.cells #[.int .i64 (1 + m1), .int .i64 0, .int .i64 m2, .int .i64 (4 + m3)] 57)
  have kQ := Cel.new w3 #[.int .i64 (1 + m1), .int .i64 0, .int .i64 m2, .int .i64 (4 + m3)] 57
  have hgV : Gr w (w3.alloc (.cells #[.int .i64 (1 + m1), .int .i64 0, .int .i64 m2, .int .i64 (4 + m3)] 57)) := (((hgA.grown hg1 (fun k h => by injection h with h; omega)).grown hg2 (fun k h => by injection h with h; omega)).grown hg3 (fun k h => by injection h with h; omega)).alloc _
  have hT3 := hT3.gr ((Gr.refl w3).alloc (.cells #[.int .i64 (1 + m1), .int .i64 0, .int .i64 m2, .int .i64 (4 + m3)] 57))
  have hQT : w.heap.size + 1 < w3.heap.size := by
    have := hg1.size; have := hg2.size; have := hg3.size
    simp at *
    omega
  simp only [List.toList_toArray] at kR kQ
  clear hgA hg1 hg2 hg3 hB hT1 hT2
  generalize w3.alloc (.cells #[.int .i64 (1 + m1), .int .i64 0, .int .i64 m2, .int .i64 (4 + m3)] 57) = V at *
  generalize w3.heap.size = Q at *
  have hTd := hT3.gr ((Gr.refl V).drew)
  have hgVd := hgV.drew
  replace kR := kR.drew
  replace kQ := kQ.drew
  clear hT3 hgV
  generalize hU : V.drew = U at *
  refine wp_region_still (Keep 6 (fun x => Cel x Q [.int .i64 (1 + m1), .int .i64 0, .int .i64 m2, .int .i64 (4 + m3)])) 7 rfl (by kernel_rfl) ?_
  show stillAny _ _ _ _ _ _ #[false, false, false, false, false, false, false] _ _
  simp only [hU]
  refine still_pure 0 (v := .pointer (some ⟨Q, 0, none⟩)) rfl (by kernel_rfl) (by kernel_rfl) (by kernel_rfl) (fun _ => kQ) rfl (fun w hw => ?_) ?_
  · simp [execOp, go_sem] <;> (intros; omega)
  simp only [Act.put, List.setIfInBounds_toArray, List.set_cons_succ, List.set_cons_zero]
  refine still_pure 1 (v := .int .i64 (1 + m1)) rfl (by kernel_rfl) (by kernel_rfl) (by kernel_rfl) (fun _ => kQ) rfl (fun w hw => ?_) ?_
  · replace hw := hw (by decide)
    have hq0 := (hw.2 0 _ rfl).1
    simp [execOp, go_sem, hq0]
  simp only [Act.put, List.setIfInBounds_toArray, List.set_cons_succ, List.set_cons_zero]
  refine still_pure 2 (v := .pointer (some ⟨w.heap.size + 1, 0, none⟩)) rfl (by kernel_rfl) (by kernel_rfl) (by kernel_rfl) (fun _ => kQ) rfl (fun w hw => ?_) ?_
  · simp [execOp, go_sem] <;> (intros; omega)
  simp only [Act.put, List.setIfInBounds_toArray, List.set_cons_succ, List.set_cons_zero]
  refine still_next (j := 3) (by kernel_rfl) (by rfl) (fun R hR => ?_)
  (try simp only [List.getElem_toArray, List.getElem_cons_succ, List.getElem_cons_zero])
  go_wp2_with (go_at_call 32; (with_reducible refine (HN.out _ 3 20 hTd ?_ ?_ ?_).mono ?_); (· omega); (· omega); (· omega); rintro e w4 ⟨m4, rfl, m4l, m4h, hg4, hT4⟩)
  have kQ4 := kQ.grown hg4 (by simp; omega)
  have kR4 := kR.grown hg4 (by simp)
  have hgW4 := hgVd.grown hg4 (fun k h => by injection h with h; omega)
  obtain ⟨z0, z1, z2, z3⟩ : w4.cell? ⟨Q, 0, none⟩ = some (.int .i64 (1 + m1)) ∧ w4.cell? ⟨Q, 1, none⟩ = some (.int .i64 0) ∧ w4.frozen? ⟨Q, 1, none⟩ = false ∧ Q < w4.heap.size := ⟨(kQ4.2 0 _ rfl).1, (kQ4.2 1 _ rfl).1, (kQ4.2 1 _ rfl).2, kQ4.1⟩
  refine only_normal (hR _ _ (Keep.step (fun _ => kQ4)) ?_)
  clear hR R
  simp only [Act.put, List.setIfInBounds_toArray, List.set_cons_succ, List.set_cons_zero]
  refine still_pure 4 (v := .int .i64 (1 + m1 + m4)) rfl (by kernel_rfl) (by kernel_rfl) (by kernel_rfl) (fun _ => kQ4) rfl (fun w hw => ?_) ?_
  · simp [execOp, go_sem, IntKind.wrap_i64] <;> omega
  simp only [Act.put, List.setIfInBounds_toArray, List.set_cons_succ, List.set_cons_zero]
  refine still_pure 5 (v := .pointer (some ⟨Q, 1, none⟩)) rfl (by kernel_rfl) (by kernel_rfl) (by kernel_rfl) (fun _ => kQ4) rfl (fun w hw => ?_) ?_
  · simp [execOp, go_sem] <;> (intros; omega)
  simp only [Act.put, List.setIfInBounds_toArray, List.set_cons_succ, List.set_cons_zero]
  refine still_next (j := 6) (by kernel_rfl) (by rfl) (fun R hR => ?_)
  (try simp only [List.getElem_toArray, List.getElem_cons_succ, List.getElem_cons_zero])
  go_wp2
  have kQ5 := kQ4.set (k := 1) (by simp) (.int .i64 (1 + m1 + m4))
  have kR5 := kR4.other (p := ⟨Q, 1, none⟩) (by simp; omega) (.int .i64 (1 + m1 + m4))
  have hgW5 : Gr w (w4.setCell ⟨Q, 1, none⟩ (.int .i64 (1 + m1 + m4))) := Gr.setCell hgW4 (by simp; omega) _
  refine only_normal (hR _ _ (Keep.last (by kernel_rfl)) ?_)
  clear hR R
  simp only [Act.put, List.setIfInBounds_toArray, List.set_cons_succ, List.set_cons_zero]
  refine still_done (by kernel_rfl) ?_
  (try simp only [List.getElem_toArray, List.getElem_cons_succ, List.getElem_cons_zero, List.setIfInBounds_toArray, List.set_cons_succ, List.set_cons_zero])
  simp only [List.set_cons_succ, List.set_cons_zero] at kQ5
  clear kR4 kQ4 hgW4 hg4 z0 z1 z2 z3 kR kQ hTd hgVd hT4
  generalize w4.setCell ⟨Q, 1, none⟩ (.int .i64 (1 + m1 + m4)) = X at *
  go_wp2_with (go_at_call 13; (with_reducible refine (HM.out _ hgW5).mono ?_); rintro e w6 ⟨mv, mcs, rfl, hg6, hM6, _⟩; obtain ⟨ma, mc, rfl, mh⟩ := hM6.at_.shape; clear mh)
  have hL := Cel.new w6 #[.slice ra rcs.length rc, .slice ma mcs.length mc] 22
  have hgL : Gr X (w6.alloc (.cells #[.slice ra rcs.length rc, .slice ma mcs.length mc] 22)) := hg6.alloc _
  have hM7 := hM6.gr ((Gr.refl w6).alloc (.cells #[.slice ra rcs.length rc, .slice ma mcs.length mc] 22))
  have kQ7 := kQ5.gr hgL
  have kR7 := kR5.gr hgL
  have hg7 := hgW5.trans hgL
  simp only [List.toList_toArray] at hL
  clear hg6 hM6 hgL kQ5 kR5 hgW5
  generalize w6.alloc (.cells #[.slice ra rcs.length rc, .slice ma mcs.length mc] 22) = Y at *
  generalize w6.heap.size = L at *
  replace kQ7 : ∃ q0 q1 q2 q3 : Int, Cel Y Q [.int .i64 q0, .int .i64 q1, .int .i64 q2, .int .i64 q3] := ⟨_, _, _, _, kQ7⟩
  obtain ⟨q0, q1, q2, q3, kQ7⟩ := kQ7
  go_loopw [44] (fun k wr => ∃ kk : Nat, kk ≤ 2 ∧ k = .int .i64 kk ∧ Gr w wr ∧ Cel wr L [.slice ra rcs.length rc, .slice ma mcs.length mc] ∧ Cel wr w.heap.size [.int .i64 r0, .int .i64 r1, .int .i64 r2, .int .i64 r3] ∧ Cel wr Q [.int .i64 q0, .int .i64 q1, .int .i64 q2, .int .i64 q3] ∧ Cues wr (.slice ma mcs.length mc) mcs) (fun k _ => 2 - (RowKit.intOf k).toNat)
  case atStart => exact ⟨0, by omega, rfl, hg7, hL, kR7, kQ7, hM7⟩
  case round =>
    obtain ⟨kk, h3, rfl, hg, hLr, hRr, hQr, hMr⟩ := hrel
    clear hL hg7 hM7 kR7 kQ7
    by_cases c1 : kk < 2
    · have g1 : decide ((kk : Int) < 2) = true := decide_eq_true (by omega)
      obtain ⟨ua, uc, cs, hcell, hCu⟩ : ∃ ua uc, ∃ cs : List Cu, wr.cell? ⟨L, kk, none⟩ = some (.slice ua cs.length uc) ∧ Cues wr (.slice ua cs.length uc) cs := by
        rcases (show kk = 0 ∨ kk = 1 by omega) with rfl | rfl
        · exact ⟨ra, rc, rcs, hLr.two.2.1, hR.out.gr hg⟩
        · exact ⟨ma, mc, mcs, hLr.two.2.2.1, hMr⟩
      have hCu := Lib.hid hCu
      have hLx := hLr.lt
      have hRx := hRr.lt
      have hQx := hQr.lt
      have a0 := (hRr.2 0 _ rfl).1
      have a1 := (hRr.2 1 _ rfl).1
      have a2 := (hRr.2 2 _ rfl).1
      have a3 := (hRr.2 3 _ rfl).1
      have b0 := (hQr.2 0 _ rfl).1
      have b1 := (hQr.2 1 _ rfl).1
      have b2 := (hQr.2 2 _ rfl).1
      have b3 := (hQr.2 3 _ rfl).1
      have hP := Cel.new wr #[.int .i64 r0, .int .i64 r1, .int .i64 r2, .int .i64 r3, .int .i64 q0, .int .i64 q1, .int .i64 q2, .int .i64 q3] 57
      have hgP : Gr wr (wr.alloc (.cells #[.int .i64 r0, .int .i64 r1, .int .i64 r2, .int .i64 r3, .int .i64 q0, .int .i64 q1, .int .i64 q2, .int .i64 q3] 57)) := (Gr.refl wr).alloc _
      simp only [List.toList_toArray] at hP
      have hg3 := hg.trans hgP
      have hL3 := hLr.gr hgP
      have hR3 := hRr.gr hgP
      have hQ3 := hQr.gr hgP
      have hM3 := hMr.gr hgP
      have hC3 := hCu.out.gr hgP
      clear hLr hRr hQr hMr
      go_wp2
      clear hgP hCu hcell hLx hRx hQx hg a0 a1 a2 a3 b0 b1 b2 b3
      generalize wr.alloc (.cells #[.int .i64 r0, .int .i64 r1, .int .i64 r2, .int .i64 r3, .int .i64 q0, .int .i64 q1, .int .i64 q2, .int .i64 q3] 57) = V at *
      generalize wr.heap.size = G at *
      go_loopw [52] (fun k wr => ∃ jj : Nat, jj ≤ 2 ∧ k = .int .i64 jj ∧ Gr w wr ∧ Cel wr G [.int .i64 r0, .int .i64 r1, .int .i64 r2, .int .i64 r3, .int .i64 q0, .int .i64 q1, .int .i64 q2, .int .i64 q3] ∧ Cel wr L [.slice ra rcs.length rc, .slice ma mcs.length mc] ∧ Cel wr w.heap.size [.int .i64 r0, .int .i64 r1, .int .i64 r2, .int .i64 r3] ∧ Cel wr Q [.int .i64 q0, .int .i64 q1, .int .i64 q2, .int .i64 q3] ∧ Cues wr (.slice ma mcs.length mc) mcs ∧ Cues wr (.slice ua cs.length uc) cs) (fun k _ => 2 - (RowKit.intOf k).toNat)
      case atStart => exact ⟨0, by omega, rfl, hg3, hP, hL3, hR3, hQ3, hM3, hC3⟩
      case round =>
        obtain ⟨jj, hj, rfl, hg, hPr, hLr, hRr, hQr, hMr, hCr⟩ := hrel
        clear hP hg3 hL3 hR3 hQ3 hM3 hC3
        by_cases cj : jj < 2
        · have g2 : decide ((jj : Int) < 2) = true := decide_eq_true (by omega)
          obtain ⟨k0, k1, k2, k3, n0, n1, n2, n3⟩ : ∃ k0 k1 k2 k3 : Int, wr.cell? ⟨G, jj * 4, none⟩ = some (.int .i64 k0) ∧ wr.cell? ⟨G, jj * 4 + 1, none⟩ = some (.int .i64 k1) ∧ wr.cell? ⟨G, jj * 4 + 2, none⟩ = some (.int .i64 k2) ∧ wr.cell? ⟨G, jj * 4 + 3, none⟩ = some (.int .i64 k3) := by
            rcases (show jj = 0 ∨ jj = 1 by omega) with rfl | rfl
            · exact ⟨r0, r1, r2, r3, (hPr.2 0 _ rfl).1, (hPr.2 1 _ rfl).1, (hPr.2 2 _ rfl).1, (hPr.2 3 _ rfl).1⟩
            · exact ⟨q0, q1, q2, q3, (hPr.2 4 _ rfl).1, (hPr.2 5 _ rfl).1, (hPr.2 6 _ rfl).1, (hPr.2 7 _ rfl).1⟩
          obtain ⟨x, hx⟩ : ∃ x, bits BinOp.and IntKind.i64 en 127 = x := ⟨_, rfl⟩
          have hK := (Cel.new wr #[.int .i64 k0, .int .i64 k1, .int .i64 k2, .int .i64 k3] 57).alloc (.cells #[.int .i64 en, .int .i64 x] 2)
          have hE := Cel.new (wr.alloc (.cells #[.int .i64 k0, .int .i64 k1, .int .i64 k2, .int .i64 k3] 57)) #[.int .i64 en, .int .i64 x] 2
          have hgE : Gr wr ((wr.alloc (.cells #[.int .i64 k0, .int .i64 k1, .int .i64 k2, .int .i64 k3] 57)).alloc (.cells #[.int .i64 en, .int .i64 x] 2)) := ((Gr.refl wr).alloc _).alloc _
          simp only [List.toList_toArray] at hK hE
          rw [show (wr.alloc (.cells #[.int .i64 k0, .int .i64 k1, .int .i64 k2, .int .i64 k3] 57)).heap.size = wr.heap.size + 1 by simp] at hE
          have hPx := hPr.lt
          have hg4 := hg.trans hgE
          have hP4 := hPr.gr hgE
          have hL4 := hLr.gr hgE
          have hR4 := hRr.gr hgE
          have hQ4 := hQr.gr hgE
          have hM4 := hMr.gr hgE
          have hC4 := hCr.gr hgE
          clear hPr hLr hRr hQr hMr hCr
          go_wp2
          clear hgE hg n0 n1 n2 n3 hPx
          generalize (wr.alloc (.cells #[.int .i64 k0, .int .i64 k1, .int .i64 k2, .int .i64 k3] 57)).alloc (.cells #[.int .i64 en, .int .i64 x] 2) = V2 at *
          generalize wr.heap.size = K at *
          go_loopw [61] (fun k wr => ∃ ii : Nat, ii ≤ 2 ∧ k = .int .i64 ii ∧ Gr w wr ∧ Cel wr (K + 1) [.int .i64 en, .int .i64 x] ∧ Cel wr K [.int .i64 k0, .int .i64 k1, .int .i64 k2, .int .i64 k3] ∧ Cel wr G [.int .i64 r0, .int .i64 r1, .int .i64 r2, .int .i64 r3, .int .i64 q0, .int .i64 q1, .int .i64 q2, .int .i64 q3] ∧ Cel wr L [.slice ra rcs.length rc, .slice ma mcs.length mc] ∧ Cel wr w.heap.size [.int .i64 r0, .int .i64 r1, .int .i64 r2, .int .i64 r3] ∧ Cel wr Q [.int .i64 q0, .int .i64 q1, .int .i64 q2, .int .i64 q3] ∧ Cues wr (.slice ma mcs.length mc) mcs ∧ Cues wr (.slice ua cs.length uc) cs) (fun k _ => 2 - (RowKit.intOf k).toNat)
          case atStart => exact ⟨0, by omega, rfl, hg4, hE, hK, hP4, hL4, hR4, hQ4, hM4, hC4⟩
          case round =>
            obtain ⟨ii, hi, rfl, hg, hEr, hKr, hPr, hLr, hRr, hQr, hMr, hCr⟩ := hrel
            clear hE hK hg4 hP4 hL4 hR4 hQ4 hM4 hC4
            by_cases ci : ii < 2
            · have g3 : decide ((ii : Int) < 2) = true := decide_eq_true (by omega)
              obtain ⟨m, hcm⟩ : ∃ m : Int, wr.cell? ⟨K + 1, ii, none⟩ = some (.int .i64 m) := by
                rcases (show ii = 0 ∨ ii = 1 by omega) with rfl | rfl
                · exact ⟨en, (hEr.2 0 _ rfl).1⟩
                · exact ⟨x, (hEr.2 1 _ rfl).1⟩
              have HC1 : Hid (∀ w', Cues w' (.slice ua cs.length uc) cs → Calls Tryd.prog 33 #[.slice ua cs.length uc, .agg #[.int .i64 k0, .int .i64 k1, .int .i64 k2, .int .i64 k3], .int .i64 m] w' fun e w'' => ∃ v' cs', e = .returned (.tuple #[v', .int .i64 (repE cs ⟨k0, k1, k2, k3⟩ m)]) ∧ Gr w' w'' ∧ Cues w'' v' cs' ∧ RepR cs ⟨k0, k1, k2, k3⟩ m cs') := fun w' h => H1.out _ cs ⟨k0, k1, k2, k3⟩ m w' h
              have HC2 : Hid (∀ w', Cues w' (.slice ua cs.length uc) cs → Calls Tryd.prog 34 #[.slice ua cs.length uc, .agg #[.int .i64 k0, .int .i64 k1, .int .i64 k2, .int .i64 k3], .int .i64 m] w' fun e w'' => ∃ v' cs', e = .returned (.tuple #[v', .int .i64 (repE cs ⟨k0, k1, k2, k3⟩ m)]) ∧ Gr w' w'' ∧ Cues w'' v' cs' ∧ RepR cs ⟨k0, k1, k2, k3⟩ m cs') := fun w' h => H2.out _ cs ⟨k0, k1, k2, k3⟩ m w' h
              have HS : Hid (∀ v1 v2 c1 c2 w', Cues w' v1 c1 → Cues w' v2 c2 → c1.map cAbs = c2.map cAbs → Calls Tryd.prog 16 #[v1, v2] w' fun e w'' => e = .returned (.bool true) ∧ Gr w' w'') := fun v1 v2 c1 c2 w' h1 h2 h3 => by
                have := same_any v1 v2 c1 c2 w' h1 h2
                rw [decide_eq_true h3] at this
                exact this
              generalize repE cs ⟨k0, k1, k2, k3⟩ m = E at HC1 HC2
              have hCh := Lib.hid hCr
              have hEx := hEr.lt
              have hKx := hKr.lt
              have s0 := (hKr.2 0 _ rfl).1
              have s1 := (hKr.2 1 _ rfl).1
              have s2 := (hKr.2 2 _ rfl).1
              have s3 := (hKr.2 3 _ rfl).1
              have hKh := Lib.hid hKr
              have hEr := Lib.hid hEr
              have hPr := Lib.hid hPr
              have hLr := Lib.hid hLr
              have hRr := Lib.hid hRr
              have hQr := Lib.hid hQr
              have hMr := Lib.hid hMr
              clear hKr hCr
              go_wp2_with (first
                | (go_at_call 33; (with_reducible refine (HC1.out _ hCh.out).mono ?_); rintro e w2 ⟨v2, cs2, rfl, hg2, hC2, hm2⟩; obtain ⟨p2, k2', hv2, hh2⟩ := hC2.at_.shape; clear hh2; subst hv2; have hKg := hKh.out.gr hg2; have t0 := (hKg.2 0 _ rfl).1; have t1 := (hKg.2 1 _ rfl).1; have t2 := (hKg.2 2 _ rfl).1; have t3 := (hKg.2 3 _ rfl).1; have tx := hKg.lt; clear hKg; have hC2 := Lib.hid hC2; have hm2 := Lib.hid hm2)
                | (go_at_call 34; (with_reducible refine (HC2.out _ (hCh.out.gr hg2)).mono ?_); rintro e w3 ⟨v3, cs3, rfl, hg3, hC3, hm3⟩; obtain ⟨p3, k3', hv3, hh3⟩ := hC3.at_.shape; clear hh3; subst hv3; have hC3 := Lib.hid hC3; have hm3 := Lib.hid hm3)
                | (go_at_call 16; (with_reducible refine (HS.out _ _ cs2 cs3 _ (hC2.out.gr hg3) hC3.out ?_).mono ?_); (· exact hm2.out.unique hm3.out); rintro e w4 ⟨rfl, hg4⟩))
              have hgB := (hg2.trans hg3).trans hg4
              go_roundw
              case rel => exact ⟨ii + 1, by omega, by go_num, hg.trans hgB, hEr.out.gr hgB, hKh.out.gr hgB, hPr.out.gr hgB, hLr.out.gr hgB, hRr.out.gr hgB, hQr.out.gr hgB, hMr.out.gr hgB, hCh.out.gr hgB⟩
              case measure => simp [RowKit.intOf]; omega
            · have g3 : decide ((ii : Int) < 2) = false := decide_eq_false (by omega)
              have hCr := Lib.hid hCr
              have hMr := Lib.hid hMr
              have hPr := Lib.hid hPr
              have hLr := Lib.hid hLr
              have hRr := Lib.hid hRr
              have hQr := Lib.hid hQr
              clear hEr hKr
              go_wp2
              go_roundw
              case rel => exact ⟨jj + 1, by omega, by go_num, hg, hPr.out, hLr.out, hRr.out, hQr.out, hMr.out, hCr.out⟩
              case measure => simp [RowKit.intOf]; omega
        · have g2 : decide ((jj : Int) < 2) = false := decide_eq_false (by omega)
          have hMr := Lib.hid hMr
          have hLr := Lib.hid hLr
          have hRr := Lib.hid hRr
          have hQr := Lib.hid hQr
          clear hCr hPr
          go_wp2
          go_roundw
          case rel => exact ⟨kk + 1, by omega, by go_num, hg, hLr.out, hRr.out, hQr.out, hMr.out⟩
          case measure => simp [RowKit.intOf]; omega
    · have g1 : decide ((kk : Int) < 2) = false := decide_eq_false (by omega)
      clear hLr hRr hQr hMr
      go_wp2_with (go_at_call 17; (with_reducible refine (HW.out _ hg).mono ?_); rintro e w5 ⟨rfl, hg5⟩)
      go_ret
      exact ⟨rfl, hg.trans hg5⟩
end Go.Proofs.YtckmebfgianeoaaDoor

/-
  CaptionsRepairs: for every input the law returns true, and the input reads as it did, where the variables of strconv hold what the program's text lays; tied to the text.
  Conditions: the listed variables.
-/
namespace Go.Proofs.YtckmebfgianeoaaDoor
open Go.ChangeShapes Go.WideShapes Go.ChangeAt Go.RowKit Go.Joins
set_option linter.unusedVariables false

theorem repB3_good {cs : List Cu} {r : Ru} {e : Int} : repB3 cs r e = true ↔ repOk cs r e := by
  unfold repB3 repOk
  rw [Bool.and_eq_true, Bool.and_eq_true, decide_eq_true_eq]
  exact ⟨fun h => ⟨h.1.1, h.1.2, h.2.1, h.2.2⟩, fun h => ⟨⟨h.1, h.2.1⟩, h.2.2.1, h.2.2.2⟩⟩
theorem repair_all (v : Value) (cs : List Cu) (r : Ru) (e : Int) (w : World) (hC : Cues w v cs) :
    Calls Tryd.prog 33 #[v, r.val, .int .i64 e] w fun en w' => ∃ v' cs', en = .returned (.tuple #[v', .int .i64 (repE cs r e)]) ∧ Gr w w' ∧ Cues w' v' cs' ∧ RepR cs r e cs' := by
  unfold repE RepR
  by_cases h : repOk cs r e
  · simp only [repB3_good.2 h, if_true]
    refine (repair_yes v cs r e w hC h).mono ?_
    rintro en w' ⟨v', cs', ts, rfl, hg, hc, hi, hm⟩
    exact ⟨v', cs', rfl, hg, hc, ts, hi, hm⟩
  · have hb : repB3 cs r e = false := by
      cases hb : repB3 cs r e with
      | false => rfl
      | true => exact absurd (repB3_good.1 hb) h
    rw [hb]
    refine (repair_no v cs r e w hC h).mono ?_
    rintro en w' ⟨rfl, hg⟩
    exact ⟨_, [], rfl, hg, ⟨CuesR.nil _, fun c hc => (by cases hc), by simp⟩, rfl⟩
theorem rrepair_all (v : Value) (cs : List Cu) (r : Ru) (e : Int) (w : World) (hC : Cues w v cs) :
    Calls Tryd.prog 34 #[v, r.val, .int .i64 e] w fun en w' => ∃ v' cs', en = .returned (.tuple #[v', .int .i64 (repE cs r e)]) ∧ Gr w w' ∧ Cues w' v' cs' ∧ RepR cs r e cs' := by
  unfold repE RepR
  by_cases h : repOk cs r e
  · simp only [repB3_good.2 h, if_true]
    refine (rrepair_yes v cs r e w hC h).mono ?_
    rintro en w' ⟨v', cs', ts, rfl, hg, hc, hi, hm⟩
    exact ⟨v', cs', rfl, hg, hc, ts, hi, hm⟩
  · have hb : repB3 cs r e = false := by
      cases hb : repB3 cs r e with
      | false => rfl
      | true => exact absurd (repB3_good.1 hb) h
    rw [hb]
    refine (rrepair_no v cs r e w hC h).mono ?_
    rintro en w' ⟨rfl, hg⟩
    exact ⟨_, [], rfl, hg, ⟨CuesR.nil _, fun c hc => (by cases hc), by simp⟩, rfl⟩
theorem lawReps_walk (rv : Value) (rcs : List Cu) (a : Option Addr) (cap : Nat) (xs : List Int) (r0 r1 r2 r3 en : Int) (w : World) (hR : Cues w rv rcs) (hA : TapeArg w a cap xs) (hT : Pow w) :
    Calls Tryd.prog 10 #[rv, .slice a xs.length cap, .agg #[.int .i64 r0, .int .i64 r1, .int .i64 r2, .int .i64 r3], .int .i64 en] w fun e w' => e = .returned (.bool true) ∧ Gr w w' :=
  lawReps_core repair_all rrepair_all rv rcs a cap xs r0 r1 r2 r3 en w hR hA hT

set_option maxRecDepth 100000 in
theorem captionsRepairs_lifted (os : Os) (started : os.Started) (H : Type) (enc : TypeId × Value → H) :
    ReturnsInHanded {} Tryd.checked os 10 .any (fun w args => (Rows.captionsRepairsSpec.pre enc Tryd.prog Tryd.f10 [] false w args ∧ laidMetH Tryd.prog laid29 w) ∧ sizedMet enc Tryd.prog Tryd.f10 (OpenSpec.ofChange Rows.captionsRepairsSpec) false w args) (Rows.captionsRepairsSpec.post enc Tryd.prog Tryd.f10 false true false false) := by
  refine returnsInHanded_of_change_and (C := Tryd.checked) (X := fun w _ => laidMetH Tryd.prog laid29 w) (fun _ _ _ hh h => h.of_heap hh) own started (by kernel_rfl) Tryd.func10
    (ChangeSpec.witness_shaped (enc := enc) (C := Tryd.checked) (os := os) (X := fun w _ => laidMetH Tryd.prog laid29 w) false (World.doorLaid Tryd.prog 24 os) #[.slice none 0 0, .slice none 0 0, .agg #[.int .i64 0, .int .i64 0, .int .i64 0, .int .i64 0], .int .i64 0] 8 rfl (World.shaped_of_RefB (by kernel_rfl) (by kernel_rfl)) (by kernel_rfl) (by kernel_rfl) (by kernel_rfl) (laid29_met os _)) ?_
  intro W base args ds gs before hval0 hW _ hWt hL _
  have hval : ∀ (j : Nat) t v, Tryd.f10.params[j]? = some t → args[j]? = some v → Value.okWide Tryd.prog W .any base t v := hval0
  have hW' := hW
  obtain ⟨p, q, hA0, hV, _, _, _⟩ := hW
  have hA : DataW.TrodAll enc Tryd.prog W 0 (fun _ => true) true Tryd.f10.params.toList args.toList ds p := hA0
  rw [Tryd.params10] at hA hval hWt
  obtain ⟨v0, vs0, d0, ds0, p0, q0, hargs, rfl, rfl, h0, r0⟩ := trodAll_cons hA
  obtain ⟨v1, vs1, d1, ds1, p1, q1, rfl, rfl, rfl, h1, r1⟩ := trodAll_cons r0
  obtain ⟨v2, vs2, d2, ds2, p2, q2, rfl, rfl, rfl, h2, r2⟩ := trodAll_cons r1
  obtain ⟨v3, vs3, d3, ds3, p3, q3, rfl, rfl, rfl, h3, r3⟩ := trodAll_cons r2
  obtain ⟨rfl, rfl, rfl⟩ := trodAll_nil r3
  obtain rfl : args = #[v0, v1, v2, v3] := by cases args; simp_all
  obtain ⟨rfl, rfl⟩ := trodVars_none hV
  obtain ⟨f0, h0x⟩ := h0
  obtain ⟨sa0, sl0, sc0, rfl⟩ := okWide_slice Tryd.underlying22 (hval 0 22 v0 rfl rfl)
  obtain ⟨rcs0, hc0⟩ := cues_open h0x (weight_at hWt 0 rfl rfl)
  obtain ⟨f1, h1x⟩ := h1
  obtain ⟨sa1, sl1, sc1, rfl⟩ := okWide_slice Tryd.underlying23 (hval 1 23 v1 rfl rfl)
  obtain ⟨a1, cap1, xs1, e1, hc1⟩ := ints_open h1x (weight_at hWt 1 rfl rfl)
  obtain ⟨rfl, rfl, rfl⟩ : sa1 = a1 ∧ sl1 = xs1.length ∧ sc1 = cap1 := by simpa using e1
  obtain ⟨vs2, ys2, m2, rfl, lv2, ly2, rfl, rfl, hy2⟩ := open_fields 4 rfl Tryd.underlying57 (by kernel_rfl) (by kernel_rfl) (hval 2 57 v2 rfl rfl) h2
  obtain ⟨c2_0, c2_1, c2_2, c2_3, rfl⟩ := list_of4 lv2
  obtain ⟨y2_0, y2_1, y2_2, y2_3, rfl⟩ := list_of4 ly2
  have q2_0 := hy2 0 _ _ _ rfl rfl rfl
  obtain ⟨a2_0, e2_0, rfl, w2_0⟩ := DataW.trod_int Tryd.underlying2 q2_0
  simp at e2_0; subst e2_0
  have q2_1 := hy2 1 _ _ _ rfl rfl rfl
  obtain ⟨a2_1, e2_1, rfl, w2_1⟩ := DataW.trod_int Tryd.underlying2 q2_1
  simp at e2_1; subst e2_1
  have q2_2 := hy2 2 _ _ _ rfl rfl rfl
  obtain ⟨a2_2, e2_2, rfl, w2_2⟩ := DataW.trod_int Tryd.underlying2 q2_2
  simp at e2_2; subst e2_2
  have q2_3 := hy2 3 _ _ _ rfl rfl rfl
  obtain ⟨a2_3, e2_3, rfl, w2_3⟩ := DataW.trod_int Tryd.underlying3 q2_3
  simp at e2_3; subst e2_3
  obtain ⟨a3, rfl, rfl, rfl, w3⟩ := open_int Tryd.underlying2 (hval 3 2 v3 rfl rfl) h3
  have hO := pow_of_laid hL
  refine (lawReps_walk _ rcs0 _ _ xs1 a2_0 a2_1 a2_2 a2_3 a3 W hc0 hc1 hO).mono fun e W' ⟨he, hg⟩ => ?_
  subst he
  exact ⟨_, rfl, law_post 4 laidOut (by kernel_rfl) rfl Tryd.underlying4 rfl rfl rfl rfl hW' hg⟩

theorem captionsRepairs_holds : Rows.CaptionsRepairsSaid :=
  OpenClaim.holds_of_wide 10 Tryd.f10 rfl rfl rfl rfl rfl rfl rfl ⟨rfl, rfl, rfl, rfl, rfl⟩ rfl rfl rfl rfl rfl (by kernel_rfl) Tryd.func10 (by kernel_rfl)
    (of_decide_eq_true (by kernel_rfl)) (by unfold Func.isWrapper; first | (rw [if_pos (by decide +kernel)]; kernel_rfl) | (rw [if_neg (by decide +kernel)]; exact ⟨rfl, rfl⟩))
    (fun os started H enc _ => captionsRepairs_lifted os started H enc)
#print axioms captionsRepairs_holds

theorem captionsRepairsCard_holds : Rows.CaptionsRepairsCardSaid :=
  Claim7.holds_tied_plain_at .later [] Rows.captionsRepairsCard.laidKinds true Rows.captionsRepairsCard.stood.harness Rows.captionsRepairsCard.stood.looks
    captionsRepairs_holds (fun _ h => by cases h) (by kernel_rfl) (fun _ h => by cases h) captionsRepairs_row_tie rfl ⟨rfl, rfl⟩ (by kernel_rfl) rfl
    (fun f fn hf hfn => by
      obtain rfl : f = 10 := Option.some.inj ((show Tryd.prog.funcNamed Rows.captionsRepairsRow.func = some 10 by kernel_rfl).symm.trans hf) |>.symm
      obtain rfl : fn = Tryd.f10 := (Option.some.inj (Tryd.func10.symm.trans hfn)).symm
      exact ⟨by kernel_rfl, fun j t ht => by
        rw [Tryd.params10] at ht
        have hm : t ∈ [22, 23, 57, 2] := by simpa using Array.mem_of_getElem? ht
        have hall : ([22, 23, 57, 2].all fun u => !Tryd.prog.wantsStandIn u) = true := by kernel_rfl
        exact (show Tryd.prog.wantsStandIn t = false by simpa using List.all_eq_true.1 hall t hm)⟩)
    (by kernel_rfl)
#print axioms captionsRepairsCard_holds
end Go.Proofs.YtckmebfgianeoaaDoor
