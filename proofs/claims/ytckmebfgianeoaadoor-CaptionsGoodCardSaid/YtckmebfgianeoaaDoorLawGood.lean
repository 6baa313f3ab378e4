/-
  Walk of the law CaptionsGood.
  Conditions: the numbers lie in memory.
-/
import Derived.Test.YtckmebfgianeoaaDoorLawCuts
import Derived.Test.YtckmebfgianeoaaDoorWalkOd
import Derived.Test.YtckmebfgianeoaaDoorWalkRe
namespace Go.Proofs.YtckmebfgianeoaaDoor
open Go.RowKit Go.Lib
set_option linter.unusedSimpArgs false
set_option linter.unusedVariables false

theorem good_ok {r : Ru} {e : Int} (hs : r.s = 1) (hg : r.g = 0) (hw : r.wd = 64) (hl : 21 ≤ r.l) {cs : List Cu} (hv : vCues cs = true) (ht : ∀ c ∈ cs, c.t ≤ c.f + 20 ∧ c.t ≤ e) : ∀ d ∈ cs.map cAbs, OkR r e d := by
  intro d hd
  obtain ⟨c, hc, rfl⟩ := List.mem_map.1 hd
  have hb := vCues_mem hv hc
  have h1 := vCu_bounds hb
  have h2 := ht c hc
  refine ⟨hb, ?_, ?_, ?_, fun x hx => ?_⟩
  · show r.s ≤ c.t - c.f; omega
  · show c.t - c.f ≤ r.l; omega
  · exact h2.2
  · have := (vLine_out (List.all_eq_true.1 h1.2.2.2.2.2 x hx)).2.1
    rw [hw]; omega
theorem good_same {r : Ru} {e : Int} (hr : ruB r = true) (hs : r.s = 1) (hg : r.g = 0) (hw : r.wd = 64) (hl : 21 ≤ r.l) {cs : List Cu} {ts : List TC} (ho : ordB cs = true) (hv : vCues cs = true) (ht : ∀ c ∈ cs, c.t ≤ c.f + 20 ∧ c.t ≤ e) (hI : IsSt cs ts) :
    repGo r e 0 ((ts.map Prod.fst).map cAbs) = cs.map cAbs := by
  rw [hI.unique (IsSt.of_ord ho hv), zip_fst]
  refine repGo_same hr (good_ok hs hg hw hl hv ht) ?_
  rw [hg]
  refine ord_gapF (by rw [← ordB_abs]; exact ho) (fun c hc => ?_)
  have hm : c ∈ cs.map cAbs := List.mem_of_mem_head? hc
  obtain ⟨d, hd, rfl⟩ := List.mem_map.1 hm
  exact (vCu_bounds (vCues_mem hv hd)).1

theorem ord_pair : ∀ {cs : List Cu}, ordB cs = true → vCues cs = true → cs.Pairwise (fun x y => x.t ≤ y.f)
  | [], _, _ => List.Pairwise.nil
  | c :: l, ho, hv => by
    have hv2 : (vCu c && vCues l) = true := hv
    rw [Bool.and_eq_true] at hv2
    refine List.pairwise_cons.2 ⟨fun d hd => ?_, ord_pair (cs := l) ?_ hv2.2⟩
    · rw [ordB_abs] at ho
      rw [vCues_abs] at hv
      exact ord_from (c := cAbs c) (l := l.map cAbs) (by simpa using ho) (by simpa using hv) (cAbs d) (List.mem_map_of_mem hd)
    · rw [ordB_abs] at ho ⊢
      exact ord_tail (c := cAbs c) (by simpa using ho)
theorem ord_last {cs : List Cu} (ho : ordB cs = true) (hv : vCues cs = true) (h0 : 0 < cs.length) : ∀ c ∈ cs, c.t ≤ (cs[cs.length - 1]'(by omega)).t := by
  intro c hc
  obtain ⟨i, hi, rfl⟩ := List.getElem_of_mem hc
  rcases (show i = cs.length - 1 ∨ i < cs.length - 1 by omega) with h | h
  · simp only [h]; exact Int.le_refl _
  · have h1 := List.pairwise_iff_getElem.1 (ord_pair ho hv) i (cs.length - 1) hi (by omega) h
    have h2 := (vCu_bounds (vCues_mem hv (List.getElem_mem (show cs.length - 1 < cs.length by omega)))).2.1
    omega
set_option maxRecDepth 20000 in
set_option maxHeartbeats 4000000 in
theorem lawGood_walk (a : Option Addr) (cap : Nat) (xs : List Int) (more : Int) (w : World) (hA : TapeArg w a cap xs) (hm : 0 ≤ more ∧ more ≤ 255) (hT : Pow w) :
    Calls Tryd.prog 11 #[.slice a xs.length cap, .int .u8 more] w fun e w' => e = .returned (.bool true) ∧ Gr w w' := by
  have HM : Hid (Calls Tryd.prog 22 #[.slice a xs.length cap] w fun e w' => ∃ v cs, e = .returned v ∧ Gr w w' ∧ Cues w' v cs ∧ Made cs ∧ ordB cs = true ∧ ∀ c ∈ cs, c.t ≤ c.f + 20 ∧ c.t ≤ 240) := ordered_any2 a cap xs w hA
  have HW : Hid (∀ w', Gr w w' → Calls Tryd.prog 17 #[] w' fun e w'' => e = .returned (.bool true) ∧ Gr w' w'') := fun w' hg => awake_any w' (Pow.gr hg hT)
  have fin : ∀ (w1 : World) (lp : Option Addr) (lc : Nat) (cs : List Cu) (e : Int), Gr w w1 → Cues w1 (.slice lp cs.length lc) cs → Made cs → ordB cs = true → (∀ c ∈ cs, c.t ≤ c.f + 20 ∧ c.t ≤ e) → 0 ≤ e → e ≤ 1000 →
      (∀ w', Gr w1 w' → Calls Tryd.prog 33 #[.slice lp cs.length lc, .agg #[.int .i64 1, .int .i64 (21 + more), .int .i64 0, .int .i64 64], .int .i64 e] w' fun en w'' => ∃ v' cs', en = .returned (.tuple #[v', .int .i64 0]) ∧ Gr w' w'' ∧ Cues w'' v' cs' ∧ cs'.map cAbs = cs.map cAbs) := by
    intro w1 lp lc cs e hg1 hL hMd hO ht he0 he1 w' hg
    have hr : ruB ⟨1, 21 + more, 0, 64⟩ = true := by unfold ruB; exact decide_eq_true (by simp only; omega)
    refine (repair_yes _ cs ⟨1, 21 + more, 0, 64⟩ e w' (hL.gr hg) ⟨hMd.v, hr, he0, by omega⟩ (by have := hMd.n; omega)).mono ?_
    rintro en w'' ⟨v', cs', ts, rfl, h1, h2, h3, h4⟩
    exact ⟨v', cs', rfl, h1, h2, by rw [h4]; exact good_same hr rfl rfl rfl (by simp only; omega) hO hMd.v ht h3⟩
  have fin := Lib.hid fin
  have HSm : Hid (∀ va vb xs' ys' w', Cues w' va xs' → Cues w' vb ys' → xs'.map cAbs = ys'.map cAbs → Calls Tryd.prog 16 #[va, vb] w' fun e w'' => e = .returned (.bool true) ∧ Gr w' w'') := fun va vb xs' ys' w' h1 h2 h3 => by
    have := same_any va vb xs' ys' w' h1 h2
    rw [decide_eq_true h3] at this
    exact this
  go_enter Tryd.func11, Tryd.ntmps11
  go_wp2_with (go_at_call 22; (with_reducible refine HM.out.mono ?_); rintro e w1 ⟨lv, cs, rfl, hg1, hL, hMd, hO, ht⟩; obtain ⟨lp, lc, hlv, hlh⟩ := hL.at_.shape; subst hlv; have hn := hMd.n; have hfin := fun e h1 h2 h3 => fin.out w1 lp lc cs e hg1 hL hMd hO h1 h2 h3; have hsm := (fun va xs' w' (hg : Gr w1 w') (h : Cues w' va xs') (he : xs'.map cAbs = cs.map cAbs) => HSm.out va _ xs' cs w' h (hL.gr hg) he); have hL := Lib.hid hL; have hl1 := Lib.hid (fun h0 => ord_last hO hMd.v h0); rcases hlh with c0 | ⟨b, o, rfl, hb, hcell⟩; rotate_left; rcases Nat.eq_zero_or_pos cs.length with c0 | c0; rotate_left; have hc1 := (hcell (cs.length - 1) (by omega)).2.1; have hl2 := hl1.out c0; have ht3 := ht _ (List.getElem_mem (show cs.length - 1 < cs.length by omega)); have hv3 := vCu_bounds (vCues_mem hMd.v (List.getElem_mem (show cs.length - 1 < cs.length by omega))); generalize (cs[cs.length - 1]'(by omega)).t = tt at hc1 hl2 ht3 hv3; have hl2 := Lib.hid hl2; have ht4 := ht3.2; have hv4 := hv3.1; have hv5 := hv3.2.1; clear hcell ht3 hv3; have HR := Lib.hid (hfin (more + tt) (fun c hc => ⟨(ht c hc).1, by have := hl2.out c hc; omega⟩) (by omega) (by omega)); have hsm := Lib.hid hsm; clear hfin ht hMd hO)
  all_goals (try (have hc0 : cs = [] := List.eq_nil_of_length_eq_zero c0))
  all_goals (try (have HR := (hfin more (fun c hc => (by rw [hc0] at hc; cases hc)) (by omega) (by omega)); rw [c0] at HR; rw [c0] at hsm; have HR := Lib.hid HR; have hsm := Lib.hid hsm; clear hfin ht hMd hO hc0))
  all_goals
    go_wp2_with (first
      | (go_at_call 33; (with_reducible refine (HR.out _ ?_).mono ?_); (· exact (Gr.refl w1).alloc _); rintro en w2 ⟨rv, cs2, rfl, hg2, hC2, hm2⟩; obtain ⟨rp, rc, hrv, hrh⟩ := hC2.at_.shape; clear hrh; subst hrv; have hC2 := Lib.hid hC2; have hm2 := Lib.hid hm2)
      | (go_at_call 16; (with_reducible refine (hsm.out _ cs2 _ ?_ hC2.out hm2.out).mono ?_); (· exact ((Gr.refl w1).alloc _).trans hg2); rintro e w3 ⟨rfl, hg3⟩)
      | (go_at_call 17; (with_reducible refine (HW.out _ ?_).mono ?_); (· exact ((hg1.trans ((Gr.refl w1).alloc _)).trans hg2).trans hg3); rintro e w5 ⟨rfl, hg5⟩))
    go_ret
    exact ⟨rfl, (by repeat (first | with_reducible exact Gr.refl _ | with_reducible assumption | refine Gr.setCell ?_ (by first | omega | (simp; done) | (simp; omega)) _ | refine Gr.alloc ?_ _ | refine Gr.drew ?_ | refine Gr.drewN ?_ _ | refine Gr.trans ?_ (by with_reducible assumption)))⟩
end Go.Proofs.YtckmebfgianeoaaDoor
