/-
  Walk of the law EdlInverse.
  Conditions: the numbers lie in memory; the table of powers is laid.
-/
import Derived.Test.YtgbiodnfpbhjiaaGreatDoorWalkOfE
import Derived.Test.YtgbiodnfpbhjiaaGreatDoorLawTracks
import Derived.Test.YtgbiodnfpbhjiaaGreatDoorWalkOfS
namespace Go.Proofs.YtgbiodnfpbhjiaaGreatDoor
open Go.RowKit Go.Lib
set_option linter.unusedSimpArgs false
set_option linter.unusedVariables false

theorem slice_of_el {w : World} {l : El} {lv : Value} (h : ElR w lv l) : ∃ p c, lv = .slice p l.evs.length c := by
  obtain ⟨p, c, h1, _⟩ := h.evs.shape
  exact ⟨p, c, h1⟩
set_option maxRecDepth 20000 in
set_option maxHeartbeats 8000000 in
theorem lawInv_core (a : Option Addr) (cap : Nat) (xs : List Int) (w : World)
    (HM : Hid (∀ w0, Gr w w0 → Calls Tryz.prog 12 #[.slice a xs.length cap] w0 fun e w' => ∃ (l : El) (p : Option Addr) (c : Nat), e = .returned (l.val (.slice p l.evs.length c)) ∧ Gr w0 w' ∧ ElR w' (.slice p l.evs.length c) l ∧ l.evs.length ≤ c ∧ vEl l = true ∧ (trkL l.evs).length ≤ 64))
    (HW : Hid (∀ w', Gr w w' → Calls Tryz.prog 15 #[] w' fun e w'' => e = .returned (.bool true) ∧ Gr w' w'')) :
    Calls Tryz.prog 6 #[.slice a xs.length cap] w fun e w' => e = .returned (.bool true) ∧ Gr w w' := by
  go_enter Tryz.func6, Tryz.ntmps6
  go_upto_region 2 with (go_at_call 12; (with_reducible refine (HM.out _ (Gr.refl _)).mono ?_); rintro e w2 ⟨⟨mt, mb, md, mevs⟩, p, c, rfl, hg2, hml, hmc, hv, hl64⟩; unfold El.val; simp only at hml hmc hv hl64 ⊢)
  obtain ⟨o1, o2, o3, o4⟩ := vEl_parts hv
  obtain ⟨d0, d1⟩ := day_bounds o1
  simp only at o1 o2 o3 o4 d0 d1
  have hvc := (trkL_vc d0 d1 o4).1
  have hme := mgE_vEl hv
  have hmt := mgE_trkL hv
  simp only at hme hmt
  obtain ⟨M, hM⟩ : ∃ M, mgE mevs = M := ⟨_, rfl⟩
  have hMl : M.length ≤ mevs.length := by rw [← hM]; exact mgE_len mevs
  rw [hM] at hme hmt
  obtain ⟨C, hC⟩ : ∃ C, trkL mevs = C := ⟨_, rfl⟩
  have hok : ∀ ts : List CM, ts.map CM.c = C → ∀ c ∈ ts, ClOk c.c := fun ts hts c hc => (hvc _ (by rw [hC, ← hts]; exact List.mem_map.2 ⟨c, hc, rfl⟩)).ok
  have hchl : ∀ ts : List CM, ts.map CM.c = C → ts.length ≤ 64 ∧ ∀ c ∈ ts, c.c.ch.length ≤ 4611686018427387904 := fun ts hts => by
    refine ⟨by rw [← List.length_map (f := CM.c), hts, ← hC]; exact hl64, fun c hc => ?_⟩
    have := (hvc c.c (by rw [hC, ← hts]; exact List.mem_map.2 ⟨c, hc, rfl⟩)).chn.1
    omega
  have HT : Hid (∀ (es : List Ev) (q : Option Addr) (k : Nat) (w' : World), ElR w' (.slice q es.length k) ⟨mt, mb, md, es⟩ → es.length ≤ k → vEl ⟨mt, mb, md, es⟩ = true → trkL es = C → Calls Tryz.prog 16 #[.agg #[.string mt, .int .i64 mb, .bool md, .slice q es.length k]] w' fun e w'' => ∃ v ts, e = .returned (.tuple #[v, .int .i64 0]) ∧ Gr w' w'' ∧ TrR w'' v ts ∧ ts.map CM.c = C) := Lib.hid fun es q k w' h hk he ht => by
    refine (etrack_any ⟨mt, mb, md, es⟩ _ w' h (fun a n c e => by injection e with e1 e2 e3; omega)).mono ?_
    rintro e w'' ⟨v', E, rfl, hg, hP⟩
    rcases hP with ⟨h1, _⟩ | ⟨_, h2, _⟩ | ⟨_, _, rfl, ts, h4, h5⟩
    · rw [he] at h1; cases h1
    · simp only [ht, ← hC] at h2; omega
    · exact ⟨v', ts, rfl, hg, h4, by rw [h5]; exact ht⟩
  have HO : Hid (∀ (v : Value) (ts : List CM) (w' : World), TrR w' v ts → ts.map CM.c = C → Calls Tryz.prog 20 #[v, .string mt, .int .i64 mb, .bool md] w' fun e w'' => ∃ (q : Option Addr) (k : Nat), e = .returned (.tuple #[.agg #[.string mt, .int .i64 mb, .bool md, .slice q M.length k], .int .i64 0]) ∧ Gr w' w'' ∧ ElR w'' (.slice q M.length k) ⟨mt, mb, md, M⟩ ∧ M.length ≤ k) := Lib.hid fun v ts w' h hts => by
    refine (eof_any ts v mt mb md w' h (hok ts hts) hml.t).mono ?_
    rintro e w'' ⟨l, lv, E, rfl, hg, hR, hcp, hP⟩
    rw [hts, ← hC] at hP
    obtain ⟨rfl, rfl⟩ := of_valid hv hl64 hP
    simp only [hM] at hR ⊢
    obtain ⟨q, k, rfl⟩ := slice_of_el hR
    exact ⟨q, k, rfl, hg, hR, hcp _ _ _ rfl⟩
  have HV : Hid (∀ (q : Option Addr) (k : Nat) (w' : World), ElR w' (.slice q M.length k) ⟨mt, mb, md, M⟩ → Calls Tryz.prog 13 #[.agg #[.string mt, .int .i64 mb, .bool md, .slice q M.length k]] w' fun e w'' => e = .returned (.bool true) ∧ Gr w' w'') := Lib.hid fun q k w' h => by
    have := evalid_any ⟨mt, mb, md, M⟩ _ w' h
    rwa [hme] at this
  have HE : Hid (∀ (v v' : Value) (ts ts' : List CM) (w' : World), TrR w' v ts → TrR w' v' ts' → ts.map CM.c = C → ts'.map CM.c = C → Calls Tryz.prog 18 #[v, v'] w' fun e w'' => e = .returned (.bool true) ∧ Gr w' w'') := Lib.hid fun v v' ts ts' w' h h' e e' => by
    obtain ⟨h1, h2⟩ := hchl ts e
    have := requal_any ts ts' v v' w' h h' (by omega) h2
    rwa [decide_eq_true (show ts.map CM.c = ts'.map CM.c by rw [e, e'])] at this
  have HS : Hid (∀ (q q' : Option Addr) (k k' : Nat) (w' : World), ElR w' (.slice q M.length k) ⟨mt, mb, md, M⟩ → ElR w' (.slice q' M.length k') ⟨mt, mb, md, M⟩ → Calls Tryz.prog 22 #[.agg #[.string mt, .int .i64 mb, .bool md, .slice q M.length k], .agg #[.string mt, .int .i64 mb, .bool md, .slice q' M.length k']] w' fun e w'' => e = .returned (.bool true) ∧ Gr w' w'') := Lib.hid fun q q' k k' w' h h' => rsame_true ⟨mt, mb, md, M⟩ _ _ w' h h'
  replace hme := Lib.hid hme
  replace hmt := Lib.hid (hmt.trans hC)
  replace hv := Lib.hid hv
  replace hC := Lib.hid hC
  replace hml := Lib.hid hml
  clear hok hchl hvc o1 o2 o3 o4 d0 d1 hl64 hM HM
  have hb2 := Cel.new w2 #[.string mt, .int .i64 mb, .bool md, .slice p mevs.length c] 24
  have hgA : Gr w2 (w2.alloc (.cells #[.string mt, .int .i64 mb, .bool md, .slice p mevs.length c] 24)) := (Gr.refl w2).alloc _
  have hw2 := hg2.trans hgA
  replace hml := Lib.hid (hml.out.gr hgA)
  clear hg2 hgA
  generalize w2.alloc (.cells #[.string mt, .int .i64 mb, .bool md, .slice p mevs.length c] 24) = W2 at *
  obtain ⟨T, hT⟩ : ∃ T, w2.heap.size = T := ⟨_, rfl⟩
  rw [hT] at hb2 ⊢
  clear hT
  obtain ⟨n, hn⟩ : ∃ n, mevs.length = n := ⟨_, rfl⟩
  obtain ⟨mm, hmm⟩ : ∃ mm, M.length = mm := ⟨_, rfl⟩
  have HT1 : Hid (Calls Tryz.prog 16 #[.agg #[.string mt, .int .i64 mb, .bool md, .slice p n c]] W2 fun e w'' => ∃ v ts, e = .returned (.tuple #[v, .int .i64 0]) ∧ Gr W2 w'' ∧ TrR w'' v ts ∧ ts.map CM.c = C) := Lib.hid (by rw [← hn]; exact HT.out mevs p c W2 hml.out hmc hv.out hC.out)
  have HT2 := Lib.hid fun q k w' h1 h2 => HT.out M q k w' h1 h2 hme.out hmt.out
  rw [hn] at hb2 hMl ⊢
  rw [hmm] at HO HV HS HT2 hMl
  clear HT hml hmc hn
  have y := hb2.lt
  have y0 := (hb2.2 0 _ rfl).1
  have y1 := (hb2.2 1 _ rfl).1
  have y2 := (hb2.2 2 _ rfl).1
  have y3 := (hb2.2 3 _ rfl).1
  go_upto_region 3 with (go_at_call 16; (with_reducible refine HT1.out.mono ?_); rintro e w3 ⟨v3, ts3, rfl, hg3, hT3, hC3⟩)
  have hb3 := hb2.gr hg3
  have hw3 := hw2.trans hg3
  clear y y0 y1 y2 y3 hb2 hw2 hg3 HT1
  have y := hb3.lt
  have y0 := (hb3.2 0 _ rfl).1
  have y1 := (hb3.2 1 _ rfl).1
  have y2 := (hb3.2 2 _ rfl).1
  go_upto_region 4 with (go_at_call 20; (with_reducible refine (HO.out _ _ _ hT3 hC3).mono ?_); rintro e w4 ⟨q4, k4, rfl, hg4, hE4, hk4⟩)
  have hgB := hg4.alloc (.cells #[.string mt, .int .i64 mb, .bool md, .slice q4 mm k4] 24)
  have hx4 := Cel.new w4 #[.string mt, .int .i64 mb, .bool md, .slice q4 mm k4] 24
  have hb4 := hb3.gr hgB
  have hw4 := hw3.trans hgB
  have hT4 := hT3.gr hgB
  have hE4' := hE4.gr ((Gr.refl w4).alloc (.cells #[.string mt, .int .i64 mb, .bool md, .slice q4 mm k4] 24))
  clear y y0 y1 y2 hb3 hw3 hg4 hgB hT3 hE4
  generalize w4.alloc (.cells #[.string mt, .int .i64 mb, .bool md, .slice q4 mm k4] 24) = W4 at *
  obtain ⟨X, hX⟩ : ∃ X, w4.heap.size = X := ⟨_, rfl⟩
  rw [hX] at hx4 ⊢
  clear hX
  have y := hx4.lt
  have y0 := (hx4.2 0 _ rfl).1
  have y1 := (hx4.2 1 _ rfl).1
  have y2 := (hx4.2 2 _ rfl).1
  have y3 := (hx4.2 3 _ rfl).1
  go_upto_region 5 with (go_at_call 16; (with_reducible refine (HT2.out _ _ _ hE4' hk4).mono ?_); rintro e w5 ⟨v5, ts5, rfl, hg5, hT5, hC5⟩)
  have hb5 := hb4.gr hg5
  have hw5 := hw4.trans hg5
  have hx5 := hx4.gr hg5
  have hT45 := hT4.gr hg5
  have hE5 := hE4'.gr hg5
  clear y y0 y1 y2 y3 hb4 hw4 hg5 hT4 hE4' hx4
  have y := hb5.lt
  have y0 := (hb5.2 0 _ rfl).1
  have y1 := (hb5.2 1 _ rfl).1
  have y2 := (hb5.2 2 _ rfl).1
  go_upto_region 6 with (go_at_call 20; (with_reducible refine (HO.out _ _ _ hT5 hC5).mono ?_); rintro e w6 ⟨q6, k6, rfl, hg6, hE6, hk6⟩)
  have hgB := hg6.alloc (.cells #[.string mt, .int .i64 mb, .bool md, .slice q6 mm k6] 24)
  have hz6 := Cel.new w6 #[.string mt, .int .i64 mb, .bool md, .slice q6 mm k6] 24
  have hb6 := hb5.gr hgB
  have hx6 := hx5.gr hgB
  have hw6 := hw5.trans hgB
  have hT36 := hT45.gr hgB
  have hT56 := hT5.gr hgB
  have hE46 := hE5.gr hgB
  have hE66 := hE6.gr ((Gr.refl w6).alloc (.cells #[.string mt, .int .i64 mb, .bool md, .slice q6 mm k6] 24))
  clear y y0 y1 y2 hb5 hx5 hw5 hg6 hgB hT45 hT5 hE5 hE6
  generalize w6.alloc (.cells #[.string mt, .int .i64 mb, .bool md, .slice q6 mm k6] 24) = W6 at *
  obtain ⟨Y, hY⟩ : ∃ Y, w6.heap.size = Y := ⟨_, rfl⟩
  rw [hY] at hz6 ⊢
  clear hY
  have HV1 := Lib.hid (HV.out _ _ _ hE46)
  have HE1 := Lib.hid fun w' (hg : Gr W6 w') => HE.out _ _ _ _ w' (hT36.gr hg) (hT56.gr hg) hC3 hC5
  have HS1 := Lib.hid fun w' (hg : Gr W6 w') => HS.out _ _ _ _ w' (hE46.gr hg) (hE66.gr hg)
  have y := hx6.lt
  have y0 := (hx6.2 0 _ rfl).1
  have y1 := (hx6.2 1 _ rfl).1
  have y2 := (hx6.2 2 _ rfl).1
  have y3 := (hx6.2 3 _ rfl).1
  have hle : decide ((mm : Int) ≤ (n : Int)) = true := decide_eq_true (by omega)
  have hle' : decide (mm ≤ n) = true := decide_eq_true hMl
  clear HV HE HS HT2 HO hT36 hT56 hE46 hE66 hC3 hC5
  go_wp2_with (first
    | (go_at_call 13; (with_reducible refine HV1.out.mono ?_); rintro e w7 ⟨rfl, hg7⟩)
    | (go_at_call 18; (with_reducible refine (HE1.out _ hg7).mono ?_); rintro e w8 ⟨rfl, hg8⟩; have hg68 := hg7.trans hg8; have hx8 := hx6.gr hg68; have hz8 := hz6.gr hg68; have u := hx8.lt; have u0 := (hx8.2 0 _ rfl).1; have u1 := (hx8.2 1 _ rfl).1; have u2 := (hx8.2 2 _ rfl).1; have u3 := (hx8.2 3 _ rfl).1; have s := hz8.lt; have s0 := (hz8.2 0 _ rfl).1; have s1 := (hz8.2 1 _ rfl).1; have s2 := (hz8.2 2 _ rfl).1; have s3 := (hz8.2 3 _ rfl).1)
    | (go_at_call 22; (with_reducible refine (HS1.out _ hg68).mono ?_); rintro e w9 ⟨rfl, hg9⟩; have hg69 := hg68.trans hg9; have hx9 := hx6.gr hg69; have hb9 := hb6.gr hg69; have r := hx9.lt; have r3 := (hx9.2 3 _ rfl).1; have t := hb9.lt; have t3 := (hb9.2 3 _ rfl).1)
    | (go_at_call 15; (with_reducible refine (HW.out _ (hw6.trans hg69)).mono ?_); rintro e w10 ⟨rfl, hg10⟩))
  go_ret
  exact ⟨rfl, (hw6.trans hg69).trans hg10⟩
theorem made_len {l : El} (h : MadeE l) : (trkL l.evs).length ≤ 64 := by
  have h1 := trk_len (l := l.evs) (n := 0) (bf := blkS)
  have h2 := pk_len (trk 0 blkS l.evs)
  have h3 := h.n
  unfold trkL
  omega
theorem lawInv_walk (a : Option Addr) (cap : Nat) (xs : List Int) (w : World) (hA : TapeArg w a cap xs) (hT : Pow w) :
    Calls Tryz.prog 6 #[.slice a xs.length cap] w fun e w' => e = .returned (.bool true) ∧ Gr w w' := by
  refine lawInv_core a cap xs w (Lib.hid fun w0 hg => ?_) (Lib.hid fun w' hg => eawake_any w' (Pow.gr hg hT))
  refine (emade_any a cap xs w0 (hA.gr hg)).mono ?_
  rintro e w' ⟨l, v, base, rfl, hg2, hR, hown, hb, hM⟩
  obtain ⟨p, c, rfl⟩ := slice_of_el hR
  exact ⟨l, p, c, rfl, hg2, hR, own_cap hown _ _ _ rfl, emade_ok hM, made_len hM⟩
end Go.Proofs.YtgbiodnfpbhjiaaGreatDoor
