/-
  Walk of the law CaptionsRepaired.
  Conditions: the numbers lie in memory.
-/
import Derived.Test.YtckmebfgianeoaaDoorLawCuts
import Derived.Test.YtckmebfgianeoaaDoorWalkOr
import Derived.Test.YtckmebfgianeoaaDoorWalkTp
import Derived.Test.YtckmebfgianeoaaDoorWalkRe
namespace Go.Proofs.YtckmebfgianeoaaDoor
open Go.RowKit Go.Lib
set_option linter.unusedSimpArgs false
set_option linter.unusedVariables false

/-- captions in memory keep the rules -/
def KeepR (r : Ru) (e : Int) (cs : List Cu) : Prop := (∀ d ∈ cs.map cAbs, OkR r e d) ∧ gapF r.g 0 (cs.map cAbs)
theorem gapF_at {g : Int} : ∀ {o : List AC} {fr : Int}, gapF g fr o → ∀ (i : Nat) (hi : i + 1 < o.length), (o[i]'(by omega)).2.1 + g ≤ (o[i + 1]'hi).1
  | [], _, _, i, hi => by simp at hi
  | [_], _, _, i, hi => by simp at hi
  | c :: d :: l, fr, h, i, hi => by
    cases i with
    | zero => exact h.2.1
    | succ i => exact gapF_at (o := d :: l) h.2 i (by simpa using hi)
theorem keep_again {r : Ru} {e : Int} {cs : List Cu} {ts : List TC} (hr : ruB r = true) (h : KeepR r e cs) (hI : IsSt cs ts) (ho : ordB cs = true) (hv : vCues cs = true) : repGo r e 0 ((ts.map Prod.fst).map cAbs) = cs.map cAbs := by
  rw [hI.unique (IsSt.of_ord ho hv), zip_fst]
  exact repGo_same hr h.1 h.2
theorem keep_of {r : Ru} {e : Int} {cs cs2 : List Cu} {ts : List TC} (hr : ruB r = true) (he : e ≤ 2147483647) (hv : vCues cs = true) (hI : IsSt cs ts) (h : cs2.map cAbs = repGo r e 0 ((ts.map Prod.fst).map cAbs)) :
    KeepR r e cs2 ∧ vCues cs2 = true ∧ ordB cs2 = true := by
  have hk := repGo_ok hr he (l := (ts.map Prod.fst).map cAbs) (fr := 0) (fun c hc => by
    obtain ⟨d, hd, rfl⟩ := List.mem_map.1 hc
    exact vCues_mem hv (hI.mem d hd)) (by omega)
  rw [← h] at hk
  have hg : 0 ≤ r.g := by unfold ruB at hr; rw [decide_eq_true_eq] at hr; exact hr.2.2.2.1
  refine ⟨hk, ?_, ?_⟩
  · rw [vCues_abs]
    exact List.all_eq_true.2 (fun d hd => (hk.1 d hd).v)
  · rw [ordB_abs]
    exact gapF_ord hg hk.2

theorem repGo_len (r : Ru) (e : Int) : ∀ (l : List AC) (fr : Int), (repGo r e fr l).length ≤ l.length
  | [], _ => Nat.le_refl _
  | c :: l, fr => by
    cases ho : repOne r e fr c with
    | none => rw [repGo_none ho]; have := repGo_len r e l fr; rw [List.length_cons]; omega
    | some d => rw [repGo_some ho]; have := repGo_len r e l (d.2.1 + r.g); simp only [List.length_cons]; omega
set_option maxRecDepth 20000 in
set_option maxHeartbeats 4000000 in
theorem lawRepd_walk (a : Option Addr) (cap : Nat) (xs : List Int) (s m g k en : Int) (w : World) (hA : TapeArg w a cap xs) (hs : 0 ≤ s ∧ s ≤ 255) (hm : 0 ≤ m ∧ m ≤ 255) (hg : 0 ≤ g ∧ g ≤ 255) (hk : 0 ≤ k ∧ k ≤ 255) (he : 0 ≤ en ∧ en ≤ 255) (hT : Pow w) :
    Calls Tryd.prog 12 #[.slice a xs.length cap, .int .u8 s, .int .u8 m, .int .u8 g, .int .u8 k, .int .u8 en] w fun e w' => e = .returned (.bool true) ∧ Gr w w' := by
  have HM : Hid (∀ w', Gr w w' → Calls Tryd.prog 13 #[.slice a xs.length cap] w' fun e w'' => ∃ v cs, e = .returned v ∧ Gr w' w'' ∧ Cues w'' v cs ∧ Made cs) := fun w' hg => made_any a cap xs w' (hA.gr hg)
  have HW : Hid (∀ w', Gr w w' → Calls Tryd.prog 17 #[] w' fun e w'' => e = .returned (.bool true) ∧ Gr w' w'') := fun w' hg => awake_any w' (Pow.gr hg hT)
  obtain ⟨s1, hs1⟩ : ∃ s1, s.tmod 9 = s1 := ⟨_, rfl⟩
  obtain ⟨m1, hm1⟩ : ∃ m1, m.tmod 30 = m1 := ⟨_, rfl⟩
  obtain ⟨g1, hg1⟩ : ∃ g1, g.tmod 5 = g1 := ⟨_, rfl⟩
  obtain ⟨k1, hk1⟩ : ∃ k1, k.tmod 40 = k1 := ⟨_, rfl⟩
  have bs : 0 ≤ s1 ∧ s1 < 9 := by rw [← hs1]; exact ⟨Int.tmod_nonneg _ hs.1, Int.tmod_lt_of_pos _ (by omega)⟩
  have bm : 0 ≤ m1 ∧ m1 < 30 := by rw [← hm1]; exact ⟨Int.tmod_nonneg _ hm.1, Int.tmod_lt_of_pos _ (by omega)⟩
  have bg : 0 ≤ g1 ∧ g1 < 5 := by rw [← hg1]; exact ⟨Int.tmod_nonneg _ hg.1, Int.tmod_lt_of_pos _ (by omega)⟩
  have bk : 0 ≤ k1 ∧ k1 < 40 := by rw [← hk1]; exact ⟨Int.tmod_nonneg _ hk.1, Int.tmod_lt_of_pos _ (by omega)⟩
  go_enter Tryd.func12, Tryd.ntmps12
  have hr : ruB ⟨s1 + 1, s1 + 1 + m1, g1, k1 + 1⟩ = true := by unfold ruB; exact decide_eq_true (by simp only; omega)
  obtain ⟨RR, hRR⟩ : ∃ RR : Ru, RR = ⟨s1 + 1, s1 + 1 + m1, g1, k1 + 1⟩ := ⟨_, rfl⟩
  rw [← hRR] at hr
  have hRv : RR.val = .agg #[.int .i64 (s1 + 1), .int .i64 (s1 + 1 + m1), .int .i64 g1, .int .i64 (k1 + 1)] := by rw [hRR]; rfl
  have hRR := Lib.hid hRR
  have HP : Hid (∀ w' lp lc cs, Cues w' (.slice lp cs.length lc) cs → vCues cs = true → cs.length < 20 → Calls Tryd.prog 33 #[.slice lp cs.length lc, .agg #[.int .i64 (s1 + 1), .int .i64 (s1 + 1 + m1), .int .i64 g1, .int .i64 (k1 + 1)], .int .i64 en] w' fun e w'' => ∃ rp rc cs2 ts, e = .returned (.tuple #[.slice rp cs2.length rc, .int .i64 0]) ∧ Gr w' w'' ∧ Cues w'' (.slice rp cs2.length rc) cs2 ∧ IsSt cs ts ∧ cs2.map cAbs = repGo RR en 0 ((ts.map Prod.fst).map cAbs)) := by
    intro w' lp lc cs h1 h2 h3
    rw [← hRv]
    refine (repair_yes _ cs RR en w' h1 ⟨h2, hr, he.1, by omega⟩ h3).mono ?_
    rintro e w'' ⟨v', cs', ts, rfl, g1, g2, g3, g4⟩
    obtain ⟨rp, rc, rfl, _⟩ := g2.at_.shape
    exact ⟨rp, rc, cs', ts, rfl, g1, g2, g3, g4⟩
  have hr := Lib.hid hr
  clear hRv
  go_wp2
  have hb := Cel.new w #[.int .i64 (s1 + 1), .int .i64 (s1 + 1 + m1), .int .i64 g1, .int .i64 (k1 + 1)] 57
  have hgB : Gr w (w.alloc (.cells #[.int .i64 (s1 + 1), .int .i64 (s1 + 1 + m1), .int .i64 g1, .int .i64 (k1 + 1)] 57)) := (Gr.refl w).alloc _
  obtain ⟨B, hB⟩ : ∃ B, w.heap.size = B := ⟨_, rfl⟩
  rw [hB] at hb ⊢
  generalize w.alloc (.cells #[.int .i64 (s1 + 1), .int .i64 (s1 + 1 + m1), .int .i64 g1, .int .i64 (k1 + 1)] 57) = V at *
  clear hB
  replace hb := hb.drew
  have hgV : Gr w V.drew := hgB.drew
  refine wp_region_still (Keep 11 (fun x => Cel x B [.int .i64 (s1 + 1), .int .i64 (s1 + 1 + m1), .int .i64 g1, .int .i64 (k1 + 1)])) 11 rfl (by kernel_rfl) ?_
  show stillAny _ _ _ _ _ _ #[false, false, false, false, false, false, false, false, false, false, false] _ _
  refine still_pure 0 (v := .slice a xs.length cap) rfl (by kernel_rfl) (by kernel_rfl) (by kernel_rfl) (fun _ => hb) rfl (fun w hw => ?_) ?_
  · simp [execOp, go_sem] <;> (intros; omega)
  simp only [Act.put, List.setIfInBounds_toArray, List.set_cons_succ, List.set_cons_zero]
  refine still_pure 2 (v := .agg #[.int .i64 (s1 + 1), .int .i64 (s1 + 1 + m1), .int .i64 g1, .int .i64 (k1 + 1)]) rfl (by kernel_rfl) (by kernel_rfl) (by kernel_rfl) (fun _ => hb) rfl (fun w hw => ?_) ?_
  · replace hw := hw (by decide)
    obtain ⟨hq0, hq1, hq2, hq3⟩ := hw.four
    simp [execOp, go_sem, hq0, hq1, hq2, hq3]
  simp only [Act.put, List.setIfInBounds_toArray, List.set_cons_succ, List.set_cons_zero]
  refine still_pure 3 (v := .int .u8 en) rfl (by kernel_rfl) (by kernel_rfl) (by kernel_rfl) (fun _ => hb) rfl (fun w hw => ?_) ?_
  · simp [execOp, go_sem] <;> (intros; omega)
  simp only [Act.put, List.setIfInBounds_toArray, List.set_cons_succ, List.set_cons_zero]
  refine still_pure 4 (v := .int .i64 en) rfl (by kernel_rfl) (by kernel_rfl) (by kernel_rfl) (fun _ => hb) rfl (fun w hw => ?_) ?_
  · simp [execOp, go_sem, IntKind.wrap_i64]
    omega
  simp only [Act.put, List.setIfInBounds_toArray, List.set_cons_succ, List.set_cons_zero]
  refine still_pick [1] (by kernel_rfl) (by decide) ?_
  intro i hi
  obtain rfl : i = 1 := by simpa using hi
  refine still_one (by rfl) (fun R hR => ?_)
  simp only [List.getElem_toArray, List.getElem_cons_succ, List.getElem_cons_zero]
  go_wp2_with (go_at_call 13; (with_reducible refine (HM.out _ hgV).mono ?_); rintro e w1 ⟨lv, cs, rfl, hgm, hL, hMd⟩; obtain ⟨lp, lc, hlv, hlh⟩ := hL.at_.shape; subst hlv; clear hlh; have hL := Lib.hid hL; have hMd := Lib.hid hMd)
  have hb := hb.gr hgm
  refine only_normal (hR _ _ (Keep.step (fun _ => hb)) ?_)
  clear hR R
  simp only [Act.put, List.setIfInBounds_toArray, List.set_cons_succ, List.set_cons_zero]
  refine still_pick [5] (by kernel_rfl) (by decide) ?_
  intro i hi
  obtain rfl : i = 5 := by simpa using hi
  refine still_one (by rfl) (fun R hR => ?_)
  simp only [List.getElem_toArray, List.getElem_cons_succ, List.getElem_cons_zero]
  go_wp2_with (go_at_call 33; (with_reducible refine (HP.out _ lp lc cs hL.out hMd.out.v ?_).mono ?_); (· have := hMd.out.n; omega); rintro e w2 ⟨rp, rc, cs2, ts, rfl, hg2, hC2, hIs, hm2⟩)
  have hb := hb.gr hg2
  have hn2 : cs2.length ≤ 8 := by
    have h1 := congrArg List.length hm2
    have h2 := repGo_len RR en ((ts.map Prod.fst).map cAbs) 0
    have h3 := hIs.len
    have h4 := hMd.out.n
    simp at h1 h2
    omega
  obtain ⟨hkp, hv2, ho2⟩ := keep_of hr.out (by omega) hMd.out.v hIs hm2
  refine only_normal (hR _ _ (Keep.step (fun _ => hb)) ?_)
  clear hR R
  simp only [Act.put, List.setIfInBounds_toArray, List.set_cons_succ, List.set_cons_zero]
  refine still_pure 6 (v := .tuple #[.slice rp cs2.length rc, .int .i64 0]) rfl (by kernel_rfl) (by kernel_rfl) (by kernel_rfl) (fun _ => hb) rfl (fun w hw => ?_) ?_
  · simp [execOp, go_sem] <;> (intros; omega)
  simp only [Act.put, List.setIfInBounds_toArray, List.set_cons_succ, List.set_cons_zero]
  refine still_pure 7 (v := .slice rp cs2.length rc) rfl (by kernel_rfl) (by kernel_rfl) (by kernel_rfl) (fun _ => hb) rfl (fun w hw => ?_) ?_
  · simp [execOp, go_sem] <;> (intros; omega)
  simp only [Act.put, List.setIfInBounds_toArray, List.set_cons_succ, List.set_cons_zero]
  refine still_pure 8 (v := .int .i64 0) rfl (by kernel_rfl) (by kernel_rfl) (by kernel_rfl) (fun _ => hb) rfl (fun w hw => ?_) ?_
  · simp [execOp, go_sem] <;> (intros; omega)
  simp only [Act.put, List.setIfInBounds_toArray, List.set_cons_succ, List.set_cons_zero]
  refine still_pure 9 (v := .slice rp cs2.length rc) rfl (by kernel_rfl) (by kernel_rfl) (by kernel_rfl) (fun _ => hb) rfl (fun w hw => ?_) ?_
  · simp [execOp, go_sem] <;> (intros; omega)
  simp only [Act.put, List.setIfInBounds_toArray, List.set_cons_succ, List.set_cons_zero]
  refine still_pure 10 (v := .int .i64 0) rfl (by kernel_rfl) (by kernel_rfl) (by kernel_rfl) (fun _ => hb) rfl (fun w hw => ?_) ?_
  · simp [execOp, go_sem] <;> (intros; omega)
  simp only [Act.put, List.setIfInBounds_toArray, List.set_cons_succ, List.set_cons_zero]
  refine still_done (by kernel_rfl) ?_
  clear hm2 hIs HM hs1 hm1 hg1 hk1
  have hmx := hC2.n
  have hw2 := (hgV.trans hgm).trans hg2
  have HO : Hid (Calls Tryd.prog 25 #[.slice rp cs2.length rc] w2 fun e w'' => e = .returned (.bool true) ∧ Gr w2 w'') := by
    have := cordered_any _ cs2 w2 hC2
    rw [hv2, ho2] at this
    exact this
  obtain ⟨ra, rcc, hrv, hrh⟩ := hC2.at_.shape
  have hrh := Lib.hid hrh
  have hC2 := Lib.hid hC2
  have hkp := Lib.hid hkp
  have hv2 := Lib.hid hv2
  have ho2 := Lib.hid ho2
  clear hL hMd
  go_wp2_with (go_at_call 25; (with_reducible refine HO.out.mono ?_); rintro e w3 ⟨rfl, hg3⟩)
  have hw3 := hw2.trans hg3
  have hb3 := Lib.hid (hb.gr hg3)
  have hC3 := Lib.hid (hC2.out.gr hg3)
  obtain ⟨ra3, rc3, hrv3, hrh3⟩ := hC3.out.at_.shape
  injection hrv3 with hr1 hr2 hr3
  subst hr1 hr3
  have hrh3 := Lib.hid hrh3
  clear hb hrh
  go_loopw [58] (fun i wr => ∃ kk : Nat, i = .int .i64 kk ∧ kk ≤ cs2.length ∧ Gr w3 wr) (fun i _ => cs2.length - (RowKit.intOf i).toNat)
  case atStart => exact ⟨0, rfl, Nat.zero_le _, Gr.refl _⟩
  case round =>
    obtain ⟨kk, rfl, h3, hgw⟩ := hrel
    by_cases c1 : kk < cs2.length
    · have q6 : decide (kk < cs2.length) = true := decide_eq_true c1
      rcases hrh3.out with h | ⟨b1, o1, rfl, hb1, hc1⟩
      · omega
      have hk0 := hc1 kk c1
      have e0 := (hgw.cells.1 b1 _ hb1).trans hk0.1
      have e1 := (hgw.cells.1 b1 _ hb1).trans hk0.2.1
      have e2 := (hgw.cells.1 b1 _ hb1).trans hk0.2.2
      have hx1 : b1 < wr.heap.size := Nat.lt_of_lt_of_le hb1 hgw.size
      have hsa := (hC3.out.at_.2 _ (List.getElem_mem c1)).gr hgw
      have hvc := vCu_bounds (vCues_mem hv2.out (List.getElem_mem c1))
      have hok := hkp.out.1 (cAbs cs2[kk]) (List.mem_map_of_mem (List.getElem_mem c1))
      have hgap : 0 < kk → ∃ pt : Int, wr.cell? ⟨b1, o1 + (kk - 1) * 3 + 1, none⟩ = some (.int .i64 pt) ∧ 0 ≤ pt ∧ pt ≤ 2147483647 ∧ pt + g1 ≤ cs2[kk].f := by
        intro h0
        have hp := gapF_at hkp.out.2 (kk - 1) (by simp; omega)
        have h1 := (hc1 (kk - 1) (by omega)).2.1
        have h2 := vCu_bounds (vCues_mem hv2.out (List.getElem_mem (show kk - 1 < cs2.length by omega)))
        refine ⟨_, (hgw.cells.1 b1 _ hb1).trans h1, by omega, by omega, ?_⟩
        have hg : RR.g = g1 := by rw [hRR.out]
        rw [hg] at hp
        simp only [List.getElem_map] at hp
        have e : kk - 1 + 1 = kk := by omega
        simp only [e] at hp
        exact hp
      generalize cs2[kk] = c at e0 e1 e2 hsa hvc hok hgap
      clear hc1 hk0
      obtain ⟨p2, cap2, hl2, hh2⟩ := hsa.shape
      rw [hl2] at e2 hsa
      have hh2 := Lib.hid hh2
      have hbr := hb3.out.gr hgw
      obtain ⟨r0, r1, r2, r3⟩ := hbr.four
      have hx2 := hbr.lt
      clear hbr
      have o1' : RR.s ≤ c.t - c.f := hok.s
      have o2' : c.t - c.f ≤ RR.l := hok.l
      have o3' : c.t ≤ en := hok.e
      have o4' : ∀ x ∈ c.ss, (x.size : Int) ≤ RR.wd := hok.w
      rw [hRR.out] at o1' o2' o4'
      simp only at o1' o2' o4'
      have o4' := Lib.hid o4'
      have d1 : decide (c.t - c.f < s1 + 1) = false := decide_eq_false (by omega)
      have d2 : decide (s1 + 1 + m1 < c.t - c.f) = false := decide_eq_false (by omega)
      have d3 : decide (en < c.t) = false := decide_eq_false (by omega)
      clear hok
      by_cases k0 : 0 < kk
      · have q7 : decide (0 < (kk : Int)) = true := decide_eq_true (by omega)
        obtain ⟨pt, e3, pt1, pt2, pt3⟩ := hgap k0
        have d4 : decide (c.f < pt + g1) = false := decide_eq_false (by omega)
        clear hgap
        go_wp2
        refine wp_region_gr (by kernel_rfl) (by kernel_rfl) (fun hq1 hq2 => ?_)
        repeat (first | go_big_quiet_skip | (go_big_quiet_want; go_big_quiet_op; first | go_big_quiet_on | (apply Exists.intro; refine ⟨fun _ => ?_, ?_⟩; (· (fail)); go_big_quiet_on)))
        refine wpQuiet_nil ?_
        clear hq1 hq2
        rintro w4 ⟨⟨_, hg4⟩, rfl⟩
        obtain ⟨hc4, hf4⟩ := hg4.cells
        have hz4 := hg4.size
        (try simp at hz4); (try have hl4_0_0 : w.heap.size < w4.heap.size := by omega); (try have hm4_0_0 : w.heap.size ≤ w4.heap.size := by omega); (try have hl4_0_1 : w.heap.size + 1 < w4.heap.size := by omega); (try have hl4_0_2 : w.heap.size + 2 < w4.heap.size := by omega); (try have hl4_1_0 : w1.heap.size < w4.heap.size := by omega); (try have hm4_1_0 : w1.heap.size ≤ w4.heap.size := by omega); (try have hl4_1_1 : w1.heap.size + 1 < w4.heap.size := by omega); (try have hl4_1_2 : w1.heap.size + 2 < w4.heap.size := by omega); (try have hl4_2_0 : w2.heap.size < w4.heap.size := by omega); (try have hm4_2_0 : w2.heap.size ≤ w4.heap.size := by omega); (try have hl4_2_1 : w2.heap.size + 1 < w4.heap.size := by omega); (try have hl4_2_2 : w2.heap.size + 2 < w4.heap.size := by omega); (try have hl4_3_0 : w3.heap.size < w4.heap.size := by omega); (try have hm4_3_0 : w3.heap.size ≤ w4.heap.size := by omega); (try have hl4_3_1 : w3.heap.size + 1 < w4.heap.size := by omega); (try have hl4_3_2 : w3.heap.size + 2 < w4.heap.size := by omega)
        have e2n := (hc4 b1 _ hx1).trans e2
        have hx1n : b1 < w4.heap.size := Nat.lt_of_lt_of_le hx1 hg4.size
        have hgw4 := hgw.trans hg4
        have hh4 : Hid (c.ss.length = 0 ∨ ∃ b o, p2 = some ⟨b, o, none⟩ ∧ b < w4.heap.size ∧ ∀ (i : Nat) (hi : i < c.ss.length), w4.cell? ⟨b, o + i, none⟩ = some (.string c.ss[i])) := by
          rcases hh2.out with h | ⟨b, o, h1, h2, h3⟩
          · exact .inl h
          · exact .inr ⟨b, o, h1, Nat.lt_of_lt_of_le h2 hg4.size, fun i hi => (hc4 b _ h2).trans (h3 i hi)⟩
        clear hc4 hf4 e0 e1 e2 e3 r0 r1 r2 r3 hx2 hh2 hg4 hgw
        go_wp2
        go_loopw [128] (fun i wi => ∃ j : Nat, i = .int .i64 j ∧ j ≤ c.ss.length ∧ Gr w4 wi) (fun i _ => c.ss.length - (RowKit.intOf i).toNat)
        case atStart => exact ⟨0, rfl, Nat.zero_le _, Gr.refl _⟩
        case round =>
          obtain ⟨j, rfl, hj, hgi⟩ := hrel
          by_cases cj : j < c.ss.length
          · have q8 : decide (j < c.ss.length) = true := decide_eq_true cj
            rcases hh4.out with h | ⟨b2, o2, rfl, hb2, hc2⟩
            · omega
            have ej := (hgi.cells.1 b2 _ hb2).trans (hc2 j cj)
            have hx5 : b2 < wr.heap.size := Nat.lt_of_lt_of_le hb2 hgi.size
            have hsz := o4'.out _ (List.getElem_mem cj)
            generalize c.ss[j] = sj at ej hsz
            have d8 : decide (k1 + 1 < (sj.size : Int)) = false := decide_eq_false (by omega)
            have hbi := hb3.out.gr (hgw4.trans hgi)
            have z3 := hbi.four.2.2.2
            have hxi := hbi.lt
            clear hc2 hbi
            go_wp2
            go_roundw
            case rel => exact ⟨j + 1, by go_num, by omega, hgi⟩
            case measure => simp [RowKit.intOf]; omega
          · have q8 : decide (j < c.ss.length) = false := decide_eq_false cj
            go_wp2
            go_roundw
            case rel => exact ⟨kk + 1, by go_num, by omega, hgw4.trans hgi⟩
            case measure => simp [RowKit.intOf]; omega
      · have q7 : decide (0 < (kk : Int)) = false := decide_eq_false (by omega)
        clear hgap
        go_wp2
        refine wp_region_gr (by kernel_rfl) (by kernel_rfl) (fun hq1 hq2 => ?_)
        repeat (first | go_big_quiet_skip | (go_big_quiet_want; go_big_quiet_op; first | go_big_quiet_on | (apply Exists.intro; refine ⟨fun _ => ?_, ?_⟩; (· (fail)); go_big_quiet_on)))
        refine wpQuiet_nil ?_
        clear hq1 hq2
        rintro w4 ⟨⟨_, hg4⟩, rfl⟩
        obtain ⟨hc4, hf4⟩ := hg4.cells
        have hz4 := hg4.size
        (try simp at hz4); (try have hl4_0_0 : w.heap.size < w4.heap.size := by omega); (try have hm4_0_0 : w.heap.size ≤ w4.heap.size := by omega); (try have hl4_0_1 : w.heap.size + 1 < w4.heap.size := by omega); (try have hl4_0_2 : w.heap.size + 2 < w4.heap.size := by omega); (try have hl4_1_0 : w1.heap.size < w4.heap.size := by omega); (try have hm4_1_0 : w1.heap.size ≤ w4.heap.size := by omega); (try have hl4_1_1 : w1.heap.size + 1 < w4.heap.size := by omega); (try have hl4_1_2 : w1.heap.size + 2 < w4.heap.size := by omega); (try have hl4_2_0 : w2.heap.size < w4.heap.size := by omega); (try have hm4_2_0 : w2.heap.size ≤ w4.heap.size := by omega); (try have hl4_2_1 : w2.heap.size + 1 < w4.heap.size := by omega); (try have hl4_2_2 : w2.heap.size + 2 < w4.heap.size := by omega); (try have hl4_3_0 : w3.heap.size < w4.heap.size := by omega); (try have hm4_3_0 : w3.heap.size ≤ w4.heap.size := by omega); (try have hl4_3_1 : w3.heap.size + 1 < w4.heap.size := by omega); (try have hl4_3_2 : w3.heap.size + 2 < w4.heap.size := by omega)
        have e2n := (hc4 b1 _ hx1).trans e2
        have hx1n : b1 < w4.heap.size := Nat.lt_of_lt_of_le hx1 hg4.size
        have hgw4 := hgw.trans hg4
        have hh4 : Hid (c.ss.length = 0 ∨ ∃ b o, p2 = some ⟨b, o, none⟩ ∧ b < w4.heap.size ∧ ∀ (i : Nat) (hi : i < c.ss.length), w4.cell? ⟨b, o + i, none⟩ = some (.string c.ss[i])) := by
          rcases hh2.out with h | ⟨b, o, h1, h2, h3⟩
          · exact .inl h
          · exact .inr ⟨b, o, h1, Nat.lt_of_lt_of_le h2 hg4.size, fun i hi => (hc4 b _ h2).trans (h3 i hi)⟩
        clear hc4 hf4 e0 e1 e2 r0 r1 r2 r3 hx2 hh2 hg4 hgw
        go_wp2
        go_loopw [128] (fun i wi => ∃ j : Nat, i = .int .i64 j ∧ j ≤ c.ss.length ∧ Gr w4 wi) (fun i _ => c.ss.length - (RowKit.intOf i).toNat)
        case atStart => exact ⟨0, rfl, Nat.zero_le _, Gr.refl _⟩
        case round =>
          obtain ⟨j, rfl, hj, hgi⟩ := hrel
          by_cases cj : j < c.ss.length
          · have q8 : decide (j < c.ss.length) = true := decide_eq_true cj
            rcases hh4.out with h | ⟨b2, o2, rfl, hb2, hc2⟩
            · omega
            have ej := (hgi.cells.1 b2 _ hb2).trans (hc2 j cj)
            have hx5 : b2 < wr.heap.size := Nat.lt_of_lt_of_le hb2 hgi.size
            have hsz := o4'.out _ (List.getElem_mem cj)
            generalize c.ss[j] = sj at ej hsz
            have d8 : decide (k1 + 1 < (sj.size : Int)) = false := decide_eq_false (by omega)
            have hbi := hb3.out.gr (hgw4.trans hgi)
            have z3 := hbi.four.2.2.2
            have hxi := hbi.lt
            clear hc2 hbi
            go_wp2
            go_roundw
            case rel => exact ⟨j + 1, by go_num, by omega, hgi⟩
            case measure => simp [RowKit.intOf]; omega
          · have q8 : decide (j < c.ss.length) = false := decide_eq_false cj
            go_wp2
            go_roundw
            case rel => exact ⟨kk + 1, by go_num, by omega, hgw4.trans hgi⟩
            case measure => simp [RowKit.intOf]; omega
    · have q6 : decide (kk < cs2.length) = false := decide_eq_false c1
      obtain ⟨r0, r1, r2, r3⟩ := (hb3.out.gr hgw).four
      have hbx := (hb3.out.gr hgw).lt
      have hCr := Lib.hid (hC3.out.gr hgw)
      have HP2 : Hid (Calls Tryd.prog 33 #[.slice rp cs2.length rc, .agg #[.int .i64 (s1 + 1), .int .i64 (s1 + 1 + m1), .int .i64 g1, .int .i64 (k1 + 1)], .int .i64 en] wr fun e w'' => ∃ rp3 rc3 cs3, e = .returned (.tuple #[.slice rp3 cs3.length rc3, .int .i64 0]) ∧ Gr wr w'' ∧ Cues w'' (.slice rp3 cs3.length rc3) cs3 ∧ cs2.map cAbs = cs3.map cAbs) := by
        refine (HP.out wr rp rc cs2 hCr.out hv2.out (by omega)).mono ?_
        rintro e w'' ⟨rp3, rc3, cs3, ts3, rfl, g1, g2, g3, g4⟩
        exact ⟨rp3, rc3, cs3, rfl, g1, g2, by rw [g4, keep_again hr.out hkp.out g3 ho2.out hv2.out]⟩
      have HSm : Hid (∀ va vb xs' ys' w', Cues w' va xs' → Cues w' vb ys' → xs'.map cAbs = ys'.map cAbs → Calls Tryd.prog 16 #[va, vb] w' fun e w'' => e = .returned (.bool true) ∧ Gr w' w'') := fun va vb xs' ys' w' h1 h2 h3 => by
        have := same_any va vb xs' ys' w' h1 h2
        rw [decide_eq_true h3] at this
        exact this
      clear HP hrh3 hmx
      go_wp2_with (first
        | (go_at_call 33; (with_reducible refine HP2.out.mono ?_); rintro e w5 ⟨rp3, rc3, cs3, rfl, hg5, hC5, hm5⟩; have hC5 := Lib.hid hC5; have hm5 := Lib.hid hm5)
        | (go_at_call 16; (with_reducible refine (HSm.out _ _ cs2 cs3 _ (hCr.out.gr hg5) hC5.out hm5.out).mono ?_); rintro e w6 ⟨rfl, hg6⟩)
        | (go_at_call 17; (with_reducible refine (HW.out _ (((hw3.trans hgw).trans hg5).trans hg6)).mono ?_); rintro e w7 ⟨rfl, hg7⟩))
      go_ret
      exact ⟨rfl, ((((hw3.trans hgw).trans hg5).trans hg6).trans hg7)⟩
end Go.Proofs.YtckmebfgianeoaaDoor
