/-
  Contract of the law's maker of ordered captions.
  Conditions: the numbers lie in memory.
-/
import Derived.Test.YthadhmhbbfjomaaGreatDoorWalkTp
import Derived.Test.YthadhmhbbfjomaaGreatDoorWalkOr
namespace Go.Proofs.YthadhmhbbfjomaaGreatDoor
open Go.RowKit Go.Lib
set_option linter.unusedSimpArgs false
set_option linter.unusedVariables false

theorem vCu_move {c : Cu} (h : vCu c = true) {F E : Int} {lv : Value} (h1 : 0 ≤ F) (h2 : F < E) (h3 : E ≤ 2147483647) : vCu ⟨F, E, lv, c.ss⟩ = true := by
  unfold vCu vCue at h ⊢
  simp only [Bool.and_eq_true, decide_eq_true_eq] at h ⊢
  exact ⟨⟨h1, h2, h3, h.1.2.2.2.1, h.1.2.2.2.2⟩, h.2⟩
theorem ordB_snoc : ∀ {cs : List Cu} {c : Cu}, ordB cs = true → (∀ d, cs.getLast? = some d → d.t ≤ c.f) → ordB (cs ++ [c]) = true
  | [], c, _, _ => rfl
  | [d], c, _, h => by
    have := h d rfl
    show (decide (d.t ≤ c.f) && ordB [c]) = true
    rw [decide_eq_true this]
    rfl
  | d :: e :: l, c, ho, h => by
    have ho : (decide (d.t ≤ e.f) && ordB (e :: l)) = true := ho
    rw [Bool.and_eq_true] at ho
    show (decide (d.t ≤ e.f) && ordB ((e :: l) ++ [c])) = true
    rw [ho.1, ordB_snoc ho.2 (fun x hx => h x (by rw [List.getLast?_cons_cons]; exact hx))]
    rfl
theorem setCell_sz (x : World) (p : Addr) (u : Value) : (x.setCell p u).heap.size = x.heap.size := by simp [World.setCell]
theorem own_lt {W : World} {base size n : Nat} {e : TypeId} {v : Value} {xs : List Value} (h : W.ownsRow base e size v n xs) : ∀ k, v.ownBlock = some k → k < W.heap.size := by
  intro k hk
  rcases h.2 with ⟨rfl, _⟩ | ⟨g, cap, cur, rfl, hb, hg, _⟩
  · simp [Value.ownBlock] at hk
  · have hkg : g = k := by simpa [Value.ownBlock] using hk
    subst hkg
    exact (Array.getElem?_eq_some_iff.1 hg).1

set_option maxRecDepth 20000 in
set_option maxHeartbeats 4000000 in
theorem ordered_any2 (a : Option Addr) (cap : Nat) (xs : List Int) (w : World) (hA : TapeArg w a cap xs) :
    Calls Tryz.prog 4 #[.slice a xs.length cap] w fun e w' => ∃ v cs, e = .returned v ∧ Gr w w' ∧ Cues w' v cs ∧ Made cs ∧ ordB cs = true ∧ ∀ c ∈ cs, c.t ≤ c.f + 20 ∧ c.t ≤ 240 := by
  have hB := hA.box 54
  have HN : Hid (∀ (w' : World) (k' : Nat) (n : Int), Tape w' w.heap.size a cap xs k' → k' ≤ 1000000 → 1 ≤ n → n ≤ 2147483647 → Calls Tryz.prog 11 #[.pointer (some ⟨w.heap.size, 0, none⟩), .int .i64 n] w' fun e w'' => ∃ r : Int, e = .returned (.int .i64 r) ∧ 0 ≤ r ∧ r < n ∧ w'.grownBy w'' (some w.heap.size) ∧ Tape w'' w.heap.size a cap xs (k' + 1)) := fun w' k' n h1 h2 h3 h4 => next_any _ a cap xs k' n w' h1 h2 h3 h4
  have hB := Lib.hid hB
  obtain ⟨ic, hic, hic0, hic1, hic2⟩ := info_parts infoCue
  go_enter Tryz.func4, Tryz.ntmps4
  go_wp2_with (go_at_call 11; (with_reducible refine (HN.out _ 0 9 hB.out ?_ ?_ ?_).mono ?_); (· omega); (· omega); (· omega); rintro e w1 ⟨m, rfl, m1, m2, hg1, hT1⟩)
  have hw1 : Gr w w1 := Gr.grown ((Gr.refl w).alloc _) hg1 (fun k h => by injection h with h; omega)
  clear hg1
  go_loopw [4, 5, 6] (fun o at_ n wr => ∃ (j k' : Nat) (av : Int) (cs : List Cu), n = .int .i64 j ∧ at_ = .int .i64 av ∧ k' + 6 * j ≤ 100 ∧ cs.length + j ≤ 8 ∧ 0 ≤ av ∧ av + 30 * j ≤ 240 ∧ Gr w wr ∧ Tape wr w.heap.size a cap xs k' ∧ CuesO (w.heap.size + 1) 57 wr o cs ∧ Hid (vCues cs = true ∧ (∀ c ∈ cs, ∀ s ∈ c.ss, s ∈ fourL) ∧ (∀ c ∈ cs, ∀ k, c.lv.ownBlock = some k → w.heap.size + 1 ≤ k) ∧ ordB cs = true ∧ (∀ d, cs.getLast? = some d → d.t ≤ av) ∧ ∀ c ∈ cs, c.t ≤ c.f + 20 ∧ c.t ≤ 240)) (fun _ _ n _ => (RowKit.intOf n).toNat)
  case atStart => exact ⟨m.toNat, 1, 0, [], by rw [Int.toNat_of_nonneg m1], rfl, by omega, by simp; omega, by omega, by omega, hw1, hT1, CuesO.nil _ _ _, ⟨rfl, fun c hc => (by cases hc), fun c hc => (by cases hc), rfl, fun d hd => (by cases hd), fun c hc => (by cases hc)⟩⟩
  case round =>
    obtain ⟨j, k', av, cs, rfl, rfl, h1, h2, v1, v2, hg, hT, hO, hV⟩ := hrel
    clear hw1 hT1
    have hsz := hT.cel.lt
    by_cases g : 0 < j
    · have q1 : decide (0 < (j : Int)) = true := decide_eq_true (by omega)
      have hO := Lib.hid hO
      go_wp2_with (first
        | (go_at_call 12; (with_reducible refine (tcue_any w.heap.size a cap xs k' _ hT ?_).mono ?_); (· omega); rintro e w2 ⟨c, k2, rfl, hg2, hT2, k3, k4, hs2, hv2, hf5, ht5, hf2, base2, hown2, hb2⟩; obtain ⟨p3, cap3, hl3, hh3⟩ := hs2.shape; clear hh3; have hcv : c.val = .agg #[.int .i64 c.f, .int .i64 c.t, .slice p3 c.ss.length cap3] := (by unfold Cu.val; rw [hl3]); rw [hcv]; have hvb := vCu_bounds hv2; have hbs : wr.heap.size ≤ w2.heap.size := ByT.size hg2; rw [hl3] at hown2; clear hs2)
        | (go_at_call 11; (with_reducible refine (HN.out _ k2 6 (hT2.gr ((Gr.refl w2).alloc _)) ?_ ?_ ?_).mono ?_); (· omega); (· omega); (· omega); rintro e w3 ⟨r, rfl, r1, r2, hg3, hT3⟩; have hB3 : Cel w3 w2.heap.size [.int .i64 c.f, .int .i64 c.t, .slice p3 c.ss.length cap3] := ((Cel.new w2 #[.int .i64 c.f, .int .i64 c.t, .slice p3 c.ss.length cap3] 57).grown hg3 (fun h => by injection h with h; omega)); obtain ⟨x0, x1, x2, x3, x4, x5, x6⟩ := hB3.three; clear hB3; have hw3 : ByT wr w.heap.size w3 := (ByT.gr hg2 ((Gr.refl w2).alloc _)).step hg3 (fun k h => by injection h with h; exact .inl h.symm))
        | (at_builtin; have hRn := Rd.new ((w3.setCell ⟨w2.heap.size, 0, none⟩ (.int .i64 (av + r))).setCell ⟨w2.heap.size, 1, none⟩ (.int .i64 (av + r + (c.t - c.f)))) #[.int .i64 (av + r), .int .i64 (av + r + (c.t - c.f)), .slice p3 c.ss.length cap3] 57 1 3 1 rfl; simp only [setCell_sz] at hRn; go_loud ((refine wpList_append_rd rfl (.tmp 37) (.tmp 39) 24 rfl (w.heap.size + 1) 57 ic (.agg #[.int .i64 0, .int .i64 0, .slice none 0 0]) 3 40 (by kernel_rfl) hic hic0 hic1 hic2 rfl (by decide) _ _ _ rfl ((CuesO.keep hO.out ((hw3.set (p := ⟨w2.heap.size, 0, none⟩) hbs (.int .i64 (av + r))).set (p := ⟨w2.heap.size, 1, none⟩) hbs (.int .i64 (av + r + (c.t - c.f)))) (Nat.lt_succ_self _) ?_).own.alloc _) _ 1 [.int .i64 (av + r), .int .i64 (av + r + (c.t - c.f)), .slice p3 c.ss.length cap3] rfl hRn ?_ ?_ ?_ ?_ ?_); (· exact fun c hc h => by have := hV.out.2.2.1 c hc _ h; omega); (· intro u hu; simp at hu; rcases hu with rfl | rfl | rfl <;> rfl); (· unfold maxLen; omega); (· omega); (· simp [World.setCell]; omega); intro v3 w4 hown3 hgrow3)))
      have hl : ∀ c ∈ cs, c.lv.ownBlock ≠ some w.heap.size := fun c hc h => by have := hV.out.2.2.1 c hc _ h; omega
      have hge := own_ge hO.out.own
      have hz3 := World.grownBy.size hg3
      simp at hz3
      have hlvT : ∀ k, (Value.slice p3 c.ss.length cap3).ownBlock = some k → wr.heap.size ≤ k ∧ k < w2.heap.size := fun k hk => ⟨by have := own_ge hown2 k hk; omega, own_lt hown2 k hk⟩
      have hw5 : ByT wr w.heap.size ((w3.setCell ⟨w2.heap.size, 0, none⟩ (.int .i64 (av + r))).setCell ⟨w2.heap.size, 1, none⟩ (.int .i64 (av + r + (c.t - c.f)))) := (hw3.set (p := ⟨w2.heap.size, 0, none⟩) hbs _).set (p := ⟨w2.heap.size, 1, none⟩) hbs _
      have hown5 := (((own_gr ((Gr.refl w2).alloc (.cells #[.int .i64 c.f, .int .i64 c.t, .slice p3 c.ss.length cap3] 57)) hown2).kept hg3 (.inr (fun h => by have := hlvT _ h; omega))).kept (grown_setCell w3 ⟨w2.heap.size, 0, none⟩ (.int .i64 (av + r))) (.inr (fun h => by have := hlvT _ h; simp at this))).kept (grown_setCell _ ⟨w2.heap.size, 1, none⟩ (.int .i64 (av + r + (c.t - c.f)))) (.inr (fun h => by have := hlvT _ h; simp at this))
      have hT5 := Tape.later hB.out (grown_setCell _ ⟨w2.heap.size, 1, none⟩ (.int .i64 (av + r + (c.t - c.f)))) (fun h => by injection h with h; simp at h; omega) (fun k h => by injection h with h; subst h; simp; omega) (Tape.later hB.out (grown_setCell w3 ⟨w2.heap.size, 0, none⟩ (.int .i64 (av + r))) (fun h => by injection h with h; simp at h; omega) (fun k h => by injection h with h; subst h; simp; omega) hT3)
      have hO2 := (CuesO.keep hO.out hw5 (Nat.lt_succ_self _) hl).gr ((Gr.refl _).alloc (.cells #[.int .i64 (av + r), .int .i64 (av + r + (c.t - c.f)), .slice p3 c.ss.length cap3] 57))
      have hO3 := hO2.app ⟨av + r, av + r + (c.t - c.f), .slice p3 c.ss.length cap3, c.ss⟩ (Rd.gr ((Gr.refl _).alloc _) (Rd.own hown5)) (Far.gr ((Gr.refl _).alloc _) (Far.row hown5 (by decide))) hown3 hgrow3
      have hg4 : Gr w w4 := ((hg.grown hw5 (fun k h => by injection h with h; omega)).alloc _).grown hgrow3 (fun k h => by have := hge k h; omega)
      have hT4 := Tape.later hB.out hgrow3 (fun h => by have := hge _ h; omega) (fun k h => by have := hge _ h; simp; omega) (hT5.gr ((Gr.refl _).alloc _))
      have hz4 := hg4.size
      clear hown3 hgrow3 hO2 hown5 hT5 hT3 hg3 hw3 hw5 hRn
      have e1 : ((j : Int) - 1) = ((j - 1 : Nat) : Int) := by omega
      have hV := hV.out
      refine ⟨⟨j - 1, k2 + 1, _, _, by rw [e1], rfl, by omega, ?_, by omega, by omega, hg4, hT4, hO3, Lib.hid ⟨?_, ?_, ?_, ?_, ?_, ?_⟩⟩, by simp [RowKit.intOf]; omega⟩
      · simp only [List.length_append, List.length_singleton]; omega
      · unfold vCues at *
        rw [List.all_append, hV.1, List.all_cons]
        show (true && (vCu _ && true)) = true
        rw [vCu_move hv2 (by omega) (by omega) (by omega)]
        rfl
      · intro d hd
        rcases List.mem_append.1 hd with h | h
        · exact hV.2.1 d h
        · rw [List.mem_singleton.1 h]; assumption
      · intro d hd k hk
        rcases List.mem_append.1 hd with h | h
        · exact hV.2.2.1 d h k hk
        · rw [List.mem_singleton.1 h] at hk
          have := hlvT k hk
          omega
      · exact ordB_snoc hV.2.2.2.1 (fun d hd => by have := hV.2.2.2.2.1 d hd; simp only; omega)
      · intro d hd
        rw [List.getLast?_concat] at hd
        injection hd with hd
        subst hd
        exact Int.le_refl _
      · intro d hd
        rcases List.mem_append.1 hd with h | h
        · exact hV.2.2.2.2.2 d h
        · rw [List.mem_singleton.1 h]
          exact ⟨by simp only; omega, by simp only; omega⟩
    · have q1 : decide (0 < (j : Int)) = false := decide_eq_false (by omega)
      go_wp2
      go_ret
      exact ⟨_, cs, rfl, (by repeat (first | with_reducible exact Gr.refl _ | with_reducible assumption | refine Gr.setCell ?_ (by first | omega | (simp; done) | (simp; omega)) _ | refine Gr.alloc ?_ _ | refine Gr.drew ?_ | refine Gr.drewN ?_ _ | refine Gr.trans ?_ (by with_reducible assumption))), ⟨hO.read, fun c hc => made_ok (vCues_mem hV.out.1 hc) (hV.out.2.1 c hc), by omega⟩, ⟨hV.out.1, by omega, hV.out.2.1, fun c hc => (hV.out.2.2.2.2.2 c hc).2⟩, hV.out.2.2.2.1, hV.out.2.2.2.2.2⟩
theorem ordered_any (a : Option Addr) (cap : Nat) (xs : List Int) (w : World) (hA : TapeArg w a cap xs) :
    Calls Tryz.prog 4 #[.slice a xs.length cap] w fun e w' => ∃ v cs, e = .returned v ∧ Gr w w' ∧ Cues w' v cs ∧ Made cs ∧ ordB cs = true :=
  (ordered_any2 a cap xs w hA).mono fun e w' ⟨v, cs, h1, h2, h3, h4, h5, _⟩ => ⟨v, cs, h1, h2, h3, h4, h5⟩
end Go.Proofs.YthadhmhbbfjomaaGreatDoor
