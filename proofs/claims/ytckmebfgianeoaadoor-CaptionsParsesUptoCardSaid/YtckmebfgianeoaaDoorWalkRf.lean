/-
  Contract of Format of the reference.
  Conditions: the list lies in memory; it has at most ten thousand million captions.
-/
import Derived.Test.YtckmebfgianeoaaDoorWalkFo
import Derived.Test.YtckmebfgianeoaaDoorWalkFk
import Derived.Test.YtckmebfgianeoaaDoorWalkUs
import Derived.Test.YtckmebfgianeoaaDoorWalkDd
import Derived.Test.YtckmebfgianeoaaDoorWalkRx
namespace Go.Proofs.YtckmebfgianeoaaDoor
open Go.RowKit Go.Lib
set_option linter.unusedSimpArgs false
set_option linter.unusedVariables false

set_option maxHeartbeats 2000000 in
theorem rformat_no (v : Value) (cs : List Cu) (num den : Int) (w : World) (hC : Cues w v cs) (hn : I64 num) (hd : I64 den) (h : ¬ (vCues cs = true ∧ suB num den = true)) :
    Calls Tryd.prog 28 #[v, .agg #[.int .i64 num, .int .i64 den]] w fun e w' => e = .returned (.tuple #[.string ⟨#[]⟩, .int .i64 1]) ∧ Gr w w' := by
  obtain ⟨p, cap, rfl, hsh⟩ := hC.at_.shape
  clear hsh
  have hL : Hid (∃ bv sv : Bool, (∀ w', Gr w w' → Calls Tryd.prog 39 #[.slice p cs.length cap] w' fun e w'' => e = .returned (.bool bv) ∧ Gr w' w'') ∧ (∀ w', Calls Tryd.prog 52 #[.agg #[.int .i64 num, .int .i64 den]] w' fun e w'' => e = .returned (.bool sv) ∧ Gr w' w'') ∧ (bv = false ∨ (bv = true ∧ sv = false))) := by
    refine ⟨vCues cs, suB num den, fun w' hg => crvalid_any _ _ w' (hC.gr hg), fun w' => rsuitable_any num den w' hn hd, ?_⟩
    cases hv : vCues cs with
    | false => exact .inl rfl
    | true =>
      refine .inr ⟨rfl, ?_⟩
      cases hs : suB num den with
      | false => rfl
      | true => exact absurd ⟨hv, hs⟩ h
  clear hC h
  obtain ⟨bv, sv, HV, HS, h⟩ := hL.out
  have HV := Lib.hid HV
  have HS := Lib.hid HS
  clear hL
  have hnew := Cel.new w #[.int .i64 num, .int .i64 den] 47
  rcases h with rfl | ⟨rfl, rfl⟩
  all_goals
    go_enter Tryd.func28, Tryd.ntmps28
    go_wp2_with (first
      | (go_at_call 39; (with_reducible refine (HV.out _ ?_).mono ?_); (· exact (by repeat (first | with_reducible exact Gr.refl _ | with_reducible assumption | refine Gr.setCell ?_ (by first | omega | (simp; done) | (simp; omega)) _ | refine Gr.alloc ?_ _ | refine Gr.drew ?_ | refine Gr.drewN ?_ _ | refine Gr.trans ?_ (by with_reducible assumption)))); rintro e w1 ⟨rfl, hg1⟩; obtain ⟨x0, a0, a1, b0, b1⟩ := (hnew.gr hg1).two)
      | (go_at_call 52; (with_reducible refine (HS.out _).mono ?_); rintro e w2 ⟨rfl, hg2⟩))
    go_ret2
    exact ⟨rfl, (by repeat (first | with_reducible exact Gr.refl _ | with_reducible assumption | refine Gr.setCell ?_ (by first | omega | (simp; done) | (simp; omega)) _ | refine Gr.alloc ?_ _ | refine Gr.drew ?_ | refine Gr.drewN ?_ _ | refine Gr.trans ?_ (by with_reducible assumption)))⟩

set_option maxRecDepth 20000 in
set_option maxHeartbeats 16000000 in
theorem rformat_main (v : Value) (cs : List Cu) (num den : Int) (w : World) (hC : Cues w v cs) (hn : I64 num) (hd : I64 den) (hv : vCues cs = true) (hs : suB num den = true) (hcn : cs.length ≤ 10000000000) :
    Calls Tryd.prog 28 #[v, .agg #[.int .i64 num, .int .i64 den]] w fun e w' => e = .returned (.tuple #[.string ⟨(fmtSS num den cs).toArray⟩, .int .i64 (fmtEE num den cs)]) ∧ Gr w w' := by
  obtain ⟨p, cap, rfl, hsh⟩ := hC.at_.shape
  have hsh := Lib.hid hsh
  have HV : Hid (∀ w', Gr w w' → Calls Tryd.prog 39 #[.slice p cs.length cap] w' fun e w'' => e = .returned (.bool true) ∧ Gr w' w'') := fun w' hg => by rw [← hv]; exact crvalid_any _ _ w' (hC.gr hg)
  have HS : Hid (∀ w', Calls Tryd.prog 52 #[.agg #[.int .i64 num, .int .i64 den]] w' fun e w'' => e = .returned (.bool true) ∧ Gr w' w'') := fun w' => by rw [← hs]; exact rsuitable_any num den w' hn hd
  have HCK : Hid (∀ n w', 0 ≤ n → n ≤ 2147483647 → Calls Tryd.prog 53 #[.int .i64 n, .agg #[.int .i64 num, .int .i64 den]] w' fun e w'' => e = .returned (.tuple #[.string ⟨(clkT (msQ n num den)).toArray⟩, .bool (decide (msQ n num den < 360000000))]) ∧ Gr w' w'') := fun n w' h0 h1 => clock_any n num den w' h0 h1 hs
  have hC := Lib.hid hC
  have hv := Lib.hid hv
  have hs := Lib.hid hs
  have hnew := Cel.new w #[.int .i64 num, .int .i64 den] 47
  go_enter Tryd.func28, Tryd.ntmps28
  go_wp2_with (first
    | (go_at_call 39; (with_reducible refine (HV.out _ ?_).mono ?_); (· exact (by repeat (first | with_reducible exact Gr.refl _ | with_reducible assumption | refine Gr.setCell ?_ (by first | omega | (simp; done) | (simp; omega)) _ | refine Gr.alloc ?_ _ | refine Gr.drew ?_ | refine Gr.drewN ?_ _ | refine Gr.trans ?_ (by with_reducible assumption)))); rintro e w1 ⟨rfl, hg1⟩; have hk1 := hnew.gr hg1; obtain ⟨x0, a0, a1, b0, b1⟩ := hk1.two)
    | (go_at_call 52; (with_reducible refine (HS.out _).mono ?_); rintro e w2 ⟨rfl, hg2⟩))
  have hgw2 : Gr w w2 := (((Gr.refl w).alloc _).trans hg1).trans hg2
  have hk2 := hk1.gr hg2
  clear hg1 hg2 hk1 x0 a0 a1 b0 b1 hnew HV HS
  have HS0 : Hid ((⟨#[]⟩ : ByteArray).data.toList ++ fmtT num den 0 (cs.drop 0) = fmtT num den 0 cs ∧ (cs.take 0).all (cueOk num den) = true) := Lib.hid ⟨by simp, rfl⟩
  go_loopw [6, 7] (fun sv i wr => ∃ (kk : Nat) (S : ByteArray), sv = .string S ∧ i = .int .i64 kk ∧ kk ≤ cs.length ∧ S.size ≤ 400 * kk ∧ Gr w wr ∧ Gr w2 wr ∧ Hid (S.data.toList ++ fmtT num den kk (cs.drop kk) = fmtT num den 0 cs ∧ (cs.take kk).all (cueOk num den) = true)) (fun _ i _ => cs.length - (RowKit.intOf i).toNat)
  case atStart => exact ⟨0, ⟨#[]⟩, rfl, rfl, Nat.zero_le _, Nat.le_refl _, hgw2, Gr.refl _, HS0⟩
  case round =>
    obtain ⟨kk, S, rfl, rfl, h3, hSz, hg, hgw, hno⟩ := hrel
    clear HS0
    by_cases c1 : kk < cs.length
    · have q6 : decide (kk < cs.length) = true := decide_eq_true c1
      rcases hsh.out with h | ⟨b1, o1, rfl, hb1, hc1⟩
      · omega
      have hc1 := hc1 kk c1
      have e0 := (hg.cells.1 b1 _ hb1).trans hc1.1
      have e1 := (hg.cells.1 b1 _ hb1).trans hc1.2.1
      have e2 := (hg.cells.1 b1 _ hb1).trans hc1.2.2
      have hx1 : b1 < wr.heap.size := Nat.lt_of_lt_of_le hb1 hg.size
      have hsa := (hC.out.at_.2 _ (List.getElem_mem c1)).gr hg
      have hvc := vCu_bounds (vCues_mem hv.out (List.getElem_mem c1))
      have hmem : cs[kk] ∈ cs := List.getElem_mem c1
      have htk : cs.take (kk + 1) = cs.take kk ++ [cs[kk]] := List.take_append_getElem c1 |>.symm
      have hdk : cs.drop kk = cs[kk] :: cs.drop (kk + 1) := List.drop_eq_getElem_cons c1
      generalize cs[kk] = c at e0 e1 e2 hsa hvc hmem htk hdk
      clear hc1
      have htk := Lib.hid htk
      have hdk := Lib.hid hdk
      have hmem := Lib.hid hmem
      obtain ⟨p2, cap2, hl2, hh2⟩ := hsa.shape
      rw [hl2] at e2
      have hh2 := Lib.hid hh2
      have hkr := hk2.gr hgw
      obtain ⟨x0, a0, a1, _, _⟩ := hkr.two
      have HF1 : Hid (∀ w', Calls Tryd.prog 53 #[.int .i64 c.f, .agg #[.int .i64 num, .int .i64 den]] w' fun e w'' => e = .returned (.tuple #[.string ⟨(clkT (msQ c.f num den)).toArray⟩, .bool (decide (msQ c.f num den < 360000000))]) ∧ Gr w' w'') := fun w' => HCK.out c.f w' (by omega) (by omega)
      have HF2 : Hid (∀ w', Calls Tryd.prog 53 #[.int .i64 c.t, .agg #[.int .i64 num, .int .i64 den]] w' fun e w'' => e = .returned (.tuple #[.string ⟨(clkT (msQ c.t num den)).toArray⟩, .bool (decide (msQ c.t num den < 360000000))]) ∧ Gr w' w'') := fun w' => HCK.out c.t w' (by omega) (by omega)
      have z1 : (⟨(clkT (msQ c.f num den)).toArray⟩ : ByteArray).size = 12 := by show (clkT _).length = 12; exact clkT_len _
      have z2 : (⟨(clkT (msQ c.t num den)).toArray⟩ : ByteArray).size = 12 := by show (clkT _).length = 12; exact clkT_len _
      obtain ⟨P, hP⟩ : ∃ P, decide (msQ c.f num den < 360000000) = P := ⟨_, rfl⟩
      obtain ⟨Q, hQ⟩ : ∃ Q, decide (msQ c.t num den < 360000000) = Q := ⟨_, rfl⟩
      rw [hP] at HF1
      rw [hQ] at HF2
      obtain ⟨T1, hT1⟩ : ∃ T1 : ByteArray, ⟨(clkT (msQ c.f num den)).toArray⟩ = T1 := ⟨_, rfl⟩
      obtain ⟨T2, hT2⟩ : ∃ T2 : ByteArray, ⟨(clkT (msQ c.t num den)).toArray⟩ = T2 := ⟨_, rfl⟩
      rw [hT1] at HF1 z1
      rw [hT2] at HF2 z2
      have hP := Lib.hid hP
      have hQ := Lib.hid hQ
      have hT1 := Lib.hid hT1
      have hT2 := Lib.hid hT2
      have bad : P = false ∨ Q = false → Hid (fmtSS num den cs = [] ∧ fmtEE num den cs = 2) := fun h => by
        have hn : fmtG num den cs = false := fmtG_no hmem.out (by
          rcases h with h | h
          · left; have := hP.out; rw [h] at this; exact of_decide_eq_false this
          · right; have := hQ.out; rw [h] at this; exact of_decide_eq_false this)
        unfold fmtSS fmtEE
        rw [hn]
        exact Lib.hid ⟨rfl, rfl⟩
      by_cases hPQ : P = false ∨ Q = false
      · have hb := bad hPQ
        have hbe : Hid (Ending.returned (.tuple #[.string ⟨#[]⟩, .int .i64 2]) = Ending.returned (.tuple #[.string ⟨(fmtSS num den cs).toArray⟩, .int .i64 (fmtEE num den cs)])) := by rw [hb.out.1, hb.out.2]; exact Lib.hid rfl
        clear bad hb
        go_wp2
        refine wp_region_gr (by kernel_rfl) (by kernel_rfl) (fun hq1 hq2 => ?_)
        repeat (first | go_big_quiet_skip | (go_big_quiet_want; go_big_quiet_op; first | go_big_quiet_on | (apply Exists.intro; refine ⟨fun _ => ?_, ?_⟩; (· ((go_at_call 53; exact gr_call (HF1.out _)))); go_big_quiet_on)))
        refine wpQuiet_nil ?_
        clear hq1 hq2
        rintro w3 ⟨⟨_, hg3⟩, rfl⟩
        obtain ⟨hc3, hf3⟩ := hg3.cells
        have hz3 := hg3.size
        (try simp at hz3); (try have hl3_0_0 : w.heap.size < w3.heap.size := by omega); (try have hm3_0_0 : w.heap.size ≤ w3.heap.size := by omega); (try have hl3_0_1 : w.heap.size + 1 < w3.heap.size := by omega); (try have hl3_0_2 : w.heap.size + 2 < w3.heap.size := by omega); (try have hl3_1_0 : w1.heap.size < w3.heap.size := by omega); (try have hm3_1_0 : w1.heap.size ≤ w3.heap.size := by omega); (try have hl3_1_1 : w1.heap.size + 1 < w3.heap.size := by omega); (try have hl3_1_2 : w1.heap.size + 2 < w3.heap.size := by omega); (try have hl3_2_0 : w2.heap.size < w3.heap.size := by omega); (try have hm3_2_0 : w2.heap.size ≤ w3.heap.size := by omega); (try have hl3_2_1 : w2.heap.size + 1 < w3.heap.size := by omega); (try have hl3_2_2 : w2.heap.size + 2 < w3.heap.size := by omega)
        have hk3 := hkr.gr hg3
        obtain ⟨x3, a3, a4, _, _⟩ := hk3.two
        have f0 := (hg3.cells.1 b1 _ hx1).trans e0
        have f1 := (hg3.cells.1 b1 _ hx1).trans e1
        have f2 := (hg3.cells.1 b1 _ hx1).trans e2
        have hx3 : b1 < w3.heap.size := Nat.lt_of_lt_of_le hx1 hg3.size
        clear hc3 hf3
        go_wp2
        refine wp_region_gr (by kernel_rfl) (by kernel_rfl) (fun hq1 hq2 => ?_)
        repeat (first | go_big_quiet_skip | (go_big_quiet_want; go_big_quiet_op; first | go_big_quiet_on | (apply Exists.intro; refine ⟨fun _ => ?_, ?_⟩; (· ((go_at_call 53; exact gr_call (HF2.out _)))); go_big_quiet_on)))
        refine wpQuiet_nil ?_
        clear hq1 hq2
        rintro w4 ⟨⟨_, hg4⟩, rfl⟩
        obtain ⟨hc4, hf4⟩ := hg4.cells
        have hz4 := hg4.size
        (try simp at hz4); (try have hl4_0_0 : w.heap.size < w4.heap.size := by omega); (try have hm4_0_0 : w.heap.size ≤ w4.heap.size := by omega); (try have hl4_0_1 : w.heap.size + 1 < w4.heap.size := by omega); (try have hl4_0_2 : w.heap.size + 2 < w4.heap.size := by omega); (try have hl4_1_0 : w1.heap.size < w4.heap.size := by omega); (try have hm4_1_0 : w1.heap.size ≤ w4.heap.size := by omega); (try have hl4_1_1 : w1.heap.size + 1 < w4.heap.size := by omega); (try have hl4_1_2 : w1.heap.size + 2 < w4.heap.size := by omega); (try have hl4_2_0 : w2.heap.size < w4.heap.size := by omega); (try have hm4_2_0 : w2.heap.size ≤ w4.heap.size := by omega); (try have hl4_2_1 : w2.heap.size + 1 < w4.heap.size := by omega); (try have hl4_2_2 : w2.heap.size + 2 < w4.heap.size := by omega); (try have hl4_3_0 : w3.heap.size < w4.heap.size := by omega); (try have hm4_3_0 : w3.heap.size ≤ w4.heap.size := by omega); (try have hl4_3_1 : w3.heap.size + 1 < w4.heap.size := by omega); (try have hl4_3_2 : w3.heap.size + 2 < w4.heap.size := by omega)
        have hgz := (hg.trans hg3).trans hg4
        have g1 : (!P || !Q) = true := by rcases hPQ with h | h <;> rw [h] <;> simp
        clear hc4 hf4
        cases P with
        | false =>
          go_wp2
          go_ret2
          exact ⟨hbe.out, hgz⟩
        | true =>
          cases Q with
          | false =>
            go_wp2
            go_ret2
            exact ⟨hbe.out, hgz⟩
          | true => rcases hPQ with h | h <;> cases h
      · have hP1 : P = true := by cases P with
          | true => rfl
          | false => exact absurd (.inl rfl) hPQ
        have hQ1 : Q = true := by cases Q with
          | true => rfl
          | false => exact absurd (.inr rfl) hPQ
        subst hP1 hQ1
        clear bad hPQ
        have HD : Hid (∀ w', Calls Tryd.prog 54 #[.int .u64 (kk + 1)] w' fun e w'' => e = .returned (.string ⟨(decDigits (kk + 1)).toArray⟩) ∧ Gr w' w'') := fun w' => decimal_any (kk + 1) w' (by omega)
        have zD : (⟨(decDigits (kk + 1)).toArray⟩ : ByteArray).size ≤ 20 := by show (decDigits _).length ≤ 20; exact dec_len _ (by omega)
        obtain ⟨D, hD⟩ : ∃ D : ByteArray, ⟨(decDigits (kk + 1)).toArray⟩ = D := ⟨_, rfl⟩
        rw [hD] at HD zD
        have hD := Lib.hid hD
        have y1 : (⟨#[10]⟩ : ByteArray).size = 1 := rfl
        have y2 : (⟨#[32, 45, 45, 62, 32]⟩ : ByteArray).size = 5 := rfl
        go_wp2
        refine wp_region_gr (by kernel_rfl) (by kernel_rfl) (fun hq1 hq2 => ?_)
        repeat (first | go_big_quiet_skip | (go_big_quiet_want; go_big_quiet_op; first | go_big_quiet_on | (apply Exists.intro; refine ⟨fun _ => ?_, ?_⟩; (· ((go_at_call 53; exact gr_call (HF1.out _)))); go_big_quiet_on)))
        refine wpQuiet_nil ?_
        clear hq1 hq2
        rintro w3 ⟨⟨_, hg3⟩, rfl⟩
        obtain ⟨hc3, hf3⟩ := hg3.cells
        have hz3 := hg3.size
        (try simp at hz3); (try have hl3_0_0 : w.heap.size < w3.heap.size := by omega); (try have hm3_0_0 : w.heap.size ≤ w3.heap.size := by omega); (try have hl3_0_1 : w.heap.size + 1 < w3.heap.size := by omega); (try have hl3_0_2 : w.heap.size + 2 < w3.heap.size := by omega); (try have hl3_1_0 : w1.heap.size < w3.heap.size := by omega); (try have hm3_1_0 : w1.heap.size ≤ w3.heap.size := by omega); (try have hl3_1_1 : w1.heap.size + 1 < w3.heap.size := by omega); (try have hl3_1_2 : w1.heap.size + 2 < w3.heap.size := by omega); (try have hl3_2_0 : w2.heap.size < w3.heap.size := by omega); (try have hm3_2_0 : w2.heap.size ≤ w3.heap.size := by omega); (try have hl3_2_1 : w2.heap.size + 1 < w3.heap.size := by omega); (try have hl3_2_2 : w2.heap.size + 2 < w3.heap.size := by omega)
        have hk3 := hkr.gr hg3
        obtain ⟨x3, a3, a4, _, _⟩ := hk3.two
        have f0 := (hg3.cells.1 b1 _ hx1).trans e0
        have f1 := (hg3.cells.1 b1 _ hx1).trans e1
        have f2 := (hg3.cells.1 b1 _ hx1).trans e2
        have hx3 : b1 < w3.heap.size := Nat.lt_of_lt_of_le hx1 hg3.size
        clear hc3 hf3
        go_wp2
        refine wp_region_gr (by kernel_rfl) (by kernel_rfl) (fun hq1 hq2 => ?_)
        repeat (first | go_big_quiet_skip | (go_big_quiet_want; go_big_quiet_op; first | go_big_quiet_on | (apply Exists.intro; refine ⟨fun _ => ?_, ?_⟩; (· ((go_at_call 53; exact gr_call (HF2.out _)))); go_big_quiet_on)))
        refine wpQuiet_nil ?_
        clear hq1 hq2
        rintro w4 ⟨⟨_, hg4⟩, rfl⟩
        obtain ⟨hc4, hf4⟩ := hg4.cells
        have hz4 := hg4.size
        (try simp at hz4); (try have hl4_0_0 : w.heap.size < w4.heap.size := by omega); (try have hm4_0_0 : w.heap.size ≤ w4.heap.size := by omega); (try have hl4_0_1 : w.heap.size + 1 < w4.heap.size := by omega); (try have hl4_0_2 : w.heap.size + 2 < w4.heap.size := by omega); (try have hl4_1_0 : w1.heap.size < w4.heap.size := by omega); (try have hm4_1_0 : w1.heap.size ≤ w4.heap.size := by omega); (try have hl4_1_1 : w1.heap.size + 1 < w4.heap.size := by omega); (try have hl4_1_2 : w1.heap.size + 2 < w4.heap.size := by omega); (try have hl4_2_0 : w2.heap.size < w4.heap.size := by omega); (try have hm4_2_0 : w2.heap.size ≤ w4.heap.size := by omega); (try have hl4_2_1 : w2.heap.size + 1 < w4.heap.size := by omega); (try have hl4_2_2 : w2.heap.size + 2 < w4.heap.size := by omega); (try have hl4_3_0 : w3.heap.size < w4.heap.size := by omega); (try have hm4_3_0 : w3.heap.size ≤ w4.heap.size := by omega); (try have hl4_3_1 : w3.heap.size + 1 < w4.heap.size := by omega); (try have hl4_3_2 : w3.heap.size + 2 < w4.heap.size := by omega)
        have f3 := (hg4.cells.1 b1 _ hx3).trans f2
        have hx4 : b1 < w4.heap.size := Nat.lt_of_lt_of_le hx3 hg4.size
        clear hc4 hf4
        go_wp2_with (go_at_call 54; (with_reducible refine (HD.out _).mono ?_); rintro e w5 ⟨rfl, hg5⟩)
        obtain ⟨H, hH⟩ : ∃ H, S ++ D ++ ⟨#[10]⟩ ++ T1 ++ ⟨#[32, 45, 45, 62, 32]⟩ ++ T2 ++ ⟨#[10]⟩ = H := ⟨_, rfl⟩
        have hHs : H.size ≤ 400 * kk + 51 := by rw [← hH]; simp only [ByteArray.size_append, y1, y2]; omega
        have hHd : Hid (H.data.toList = S.data.toList ++ hdrT (itoa (kk + 1)) (ftS c.f num den) (ftS c.t num den)) := by
          refine Lib.hid ?_
          have i1 : itoa ((kk : Int) + 1) = decDigits (kk + 1) := by have := itoa_nonneg (kk + 1); rw [← this]; rfl
          have i2 : ftS c.f num den = clkT (msQ c.f num den) := by
            unfold ftS
            rw [if_pos (of_decide_eq_true hP.out), clkT_eq (ms_bounds (by omega) (by omega) hs.out).2.2.1 (of_decide_eq_true hP.out)]
          have i3 : ftS c.t num den = clkT (msQ c.t num den) := by
            unfold ftS
            rw [if_pos (of_decide_eq_true hQ.out), clkT_eq (ms_bounds (by omega) (by omega) hs.out).2.2.1 (of_decide_eq_true hQ.out)]
          rw [← hH, i1, i2, i3, ← hD.out, ← hT1.out, ← hT2.out]
          unfold hdrT
          simp
        rw [hH]
        have hg5w := (hgw.trans hg3).trans hg4 |>.trans hg5
        have hg5a := (hg.trans hg3).trans hg4 |>.trans hg5
        have g2 := (hg5.cells.1 b1 _ hx4).trans f3
        have hx5 : b1 < w5.heap.size := Nat.lt_of_lt_of_le hx4 hg5.size
        have hh5 : Hid (c.ss.length = 0 ∨ ∃ b o, p2 = some ⟨b, o, none⟩ ∧ b < w5.heap.size ∧ ∀ (i : Nat) (hi : i < c.ss.length), w5.cell? ⟨b, o + i, none⟩ = some (.string c.ss[i])) := by
          have hgq := (hg3.trans hg4).trans hg5
          rcases hh2.out with h | ⟨b, o, h1, h2, h3⟩
          · exact .inl h
          · exact .inr ⟨b, o, h1, Nat.lt_of_lt_of_le h2 hgq.size, fun i hi => (hgq.cells.1 b _ h2).trans (h3 i hi)⟩
        have hst := hno.out
        have hvl : Hid (∀ s ∈ c.ss, s.size ≤ 64) := fun s hs => (vLine_size (List.all_eq_true.1 hvc.2.2.2.2.2 s hs)).2
        have hn4 := hvc.2.2.2.2.1
        clear hno hh2 hsa a0 a1 x0 a3 a4 x3 f0 f1 f2 f3 e0 e1 e2 hH hg3 hg4 hg5 hk3 hkr
        have hst := Lib.hid hst
        go_loopw [6, 12] (fun sv i wi => ∃ (j : Nat) (T : ByteArray), sv = .string T ∧ i = .int .i64 j ∧ j ≤ c.ss.length ∧ T.size ≤ 400 * kk + 51 + 65 * j ∧ Gr w5 wi ∧ Hid (T.data.toList = H.data.toList ++ linT (c.ss.take j))) (fun _ i _ => c.ss.length - (RowKit.intOf i).toNat)
        case atStart => exact ⟨0, H, rfl, rfl, Nat.zero_le _, by omega, Gr.refl _, Lib.hid (by simp [linT])⟩
        case round =>
          obtain ⟨j, T, rfl, rfl, hj, hTz, hgi, hTd⟩ := hrel
          have g3 := (hgi.cells.1 b1 _ hx5).trans g2
          have hxi : b1 < wr.heap.size := Nat.lt_of_lt_of_le hx5 hgi.size
          by_cases cj : j < c.ss.length
          · have q7 : decide (j < c.ss.length) = true := decide_eq_true cj
            rcases hh5.out with h | ⟨b2, o2, rfl, hb2, hc2⟩
            · omega
            have ek := (hgi.cells.1 b2 _ hb2).trans (hc2 j cj)
            have hxj : b2 < wr.heap.size := Nat.lt_of_lt_of_le hb2 hgi.size
            have hzk := hvl.out _ (List.getElem_mem cj)
            have htj : Hid (linT (c.ss.take (j + 1)) = linT (c.ss.take j) ++ (c.ss[j].data.toList ++ [10])) := by
              rw [show c.ss.take (j + 1) = c.ss.take j ++ [c.ss[j]] from (List.take_append_getElem cj).symm, linT_snoc]
              exact Lib.hid rfl
            generalize c.ss[j] = sk at ek hzk htj
            clear hc2
            have hz2 : (T ++ sk ++ (⟨#[10]⟩ : ByteArray)).size ≤ 400 * kk + 51 + 65 * (j + 1) := by simp only [ByteArray.size_append, y1]; omega
            have hT2 : Hid ((T ++ sk ++ (⟨#[10]⟩ : ByteArray)).data.toList = H.data.toList ++ linT (c.ss.take (j + 1))) := by
              refine Lib.hid ?_
              rw [htj.out, ← List.append_assoc, ← hTd.out]
              simp
            go_wp2
            refine ⟨⟨j + 1, _, rfl, by go_num, by omega, hz2, hgi, hT2⟩, by simp [RowKit.intOf]; omega⟩
          · have q7 : decide (j < c.ss.length) = false := decide_eq_false cj
            obtain rfl : j = c.ss.length := by omega
            have hz3 : (T ++ (⟨#[10]⟩ : ByteArray)).size ≤ 400 * (kk + 1) := by simp only [ByteArray.size_append, y1]; omega
            have hst2 : Hid ((T ++ (⟨#[10]⟩ : ByteArray)).data.toList ++ fmtT num den (kk + 1) (cs.drop (kk + 1)) = fmtT num den 0 cs ∧ (cs.take (kk + 1)).all (cueOk num den) = true) := by
              have h1 := hst.out
              have h2 := hTd.out
              rw [List.take_length] at h2
              refine Lib.hid ⟨?_, ?_⟩
              · rw [← h1.1, hdk.out, fmtT]
                simp only [ByteArray.data_append, Array.toList_append, h2, hHd.out]
                unfold cueT hdrT
                simp
              · rw [htk.out, List.all_append, h1.2]
                unfold cueOk
                simp [of_decide_eq_true hP.out, of_decide_eq_true hQ.out]
            clear hst hTd
            go_wp2
            refine ⟨⟨kk + 1, _, rfl, by go_num, by omega, hz3, hg5a.trans hgi, hg5w.trans hgi, hst2⟩, by simp [RowKit.intOf]; omega⟩
    · have q6 : decide (kk < cs.length) = false := decide_eq_false c1
      obtain rfl : kk = cs.length := by omega
      have hst1 := hno.out
      rw [List.take_length, List.drop_of_length_le (Nat.le_refl _), fmtT, List.append_nil] at hst1
      have hfin : Hid (Ending.returned (.tuple #[.string S, .int .i64 0]) = Ending.returned (.tuple #[.string ⟨(fmtSS num den cs).toArray⟩, .int .i64 (fmtEE num den cs)])) := by
        refine Lib.hid ?_
        have h1 : fmtG num den cs = true := hst1.2
        unfold fmtSS fmtEE
        rw [h1, ← hst1.1]
        simp
      clear hst1 hno hsh hC
      go_wp2
      go_ret2
      exact ⟨hfin.out, hg⟩
end Go.Proofs.YtckmebfgianeoaaDoor
