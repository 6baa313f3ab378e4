/-
  Contract of the tape of choices: a source.
  Conditions: the tape's numbers lie in memory.
-/
import Derived.Test.YtgbiodnfpbhjiaaGreatDoorWalkFa
import Derived.Test.YtgbiodnfpbhjiaaGreatDoorClip
namespace Go.Proofs.YtgbiodnfpbhjiaaGreatDoor
open Go.RowKit Go.Lib
set_option linter.unusedSimpArgs false
set_option linter.unusedVariables false

/-- a made source: small numbers -/
structure SrM (s : Sr) : Prop where
  k : 0 ≤ s.k ∧ s.k ≤ 2
  nm : s.nm.size ≤ 2000
  an : -2000 ≤ s.an ∧ s.an ≤ 2000
  ad : 0 ≤ s.ad ∧ s.ad ≤ 2000
  sn : -2000 ≤ s.sn ∧ s.sn ≤ 2000
  sd : 0 ≤ s.sd ∧ s.sd ≤ 2000
theorem SrM.blk : SrM blkS := ⟨by decide, by decide, by decide, by decide, by decide, by decide⟩
set_option maxRecDepth 20000 in
set_option maxHeartbeats 8000000 in
theorem source_any (T : Nat) (a : Option Addr) (cap : Nat) (xs : List Int) (k : Nat) (w : World) (hT : Tape w T a cap xs k) (hk : k ≤ 10000) :
    Calls Tryz.prog 124 #[.pointer (some ⟨T, 0, none⟩), .int .i64 3, .int .i64 2] w fun e w' => ∃ (s : Sr) (k' : Nat), e = .returned (.agg s.cells.toArray) ∧ SrM s ∧ ByT w T w' ∧ Tape w' T a cap xs k' ∧ k ≤ k' ∧ k' ≤ k + 6 := by
  have HN : Hid (∀ (w' : World) (k' : Nat) (n : Int), Tape w' T a cap xs k' → k' ≤ 1000000 → 1 ≤ n → n ≤ 2147483647 → Calls Tryz.prog 33 #[.pointer (some ⟨T, 0, none⟩), .int .i64 n] w' fun e w'' => ∃ r : Int, e = .returned (.int .i64 r) ∧ 0 ≤ r ∧ r < n ∧ w'.grownBy w'' (some T) ∧ Tape w'' T a cap xs (k' + 1)) := fun w' k' n h1 h2 h3 h4 => next_any T a cap xs k' n w' h1 h2 h3 h4
  have HS : Hid (∀ (w' : World) (k' : Nat), Tape w' T a cap xs k' → k' ≤ 100000 → Calls Tryz.prog 164 #[.pointer (some ⟨T, 0, none⟩)] w' fun e w'' => ∃ n d : Int, e = .returned (.agg #[.int .i64 n, .int .i64 d]) ∧ -2000 ≤ n ∧ n ≤ 2000 ∧ 0 ≤ d ∧ d ≤ 2000 ∧ ByT w' T w'' ∧ Tape w'' T a cap xs (k' + 1)) := Lib.hid fun w' k' h1 h2 => speed_any T a cap xs k' w' h1 h2
  have HR : Hid (∀ (w' : World) (k' : Nat), Tape w' T a cap xs k' → k' ≤ 100000 → Calls Tryz.prog 163 #[.pointer (some ⟨T, 0, none⟩), .int .i64 40] w' fun e w'' => ∃ n d : Int, e = .returned (.agg #[.int .i64 n, .int .i64 d]) ∧ -2000 ≤ n ∧ n ≤ 2000 ∧ 0 ≤ d ∧ d ≤ 2000 ∧ ByT w' T w'' ∧ Tape w'' T a cap xs (k' + 2)) := Lib.hid fun w' k' h1 h2 => rat_any T a cap xs k' w' h1 h2
  have HM : Hid (∀ (s : ByteArray) (n : Int) (w' : World), s.size ≤ 1000 → 0 ≤ n → n ≤ 9 → Calls Tryz.prog 165 #[.string s, .int .i64 n] w' fun e w'' => ∃ t : ByteArray, e = .returned (.string t) ∧ t.size ≤ 2000 ∧ w'' = w') := Lib.hid fun s n w' h1 h2 h3 => name_any s n w' h1 h2 h3
  have hTl := hT.cel.lt
  have hT0 := Lib.hid hT
  have hr := Blk.new w [.int .i64 0, .string ⟨#[]⟩, .int .i64 0, .int .i64 0, .int .i64 0, .int .i64 0, .bool false] 79
  have hgA : Gr w (w.alloc (.cells #[.int .i64 0, .string ⟨#[]⟩, .int .i64 0, .int .i64 0, .int .i64 0, .int .i64 0, .bool false] 79)) := (Gr.refl w).alloc _
  go_enter Tryz.func124, Tryz.ntmps124
  go_upto_region 1 with fail
  have hT1 := hT.gr hgA
  have hB1 := (ByT.refl w T).gr hgA
  clear hT hgA
  simp only [List.toArray] at hr
  generalize w.alloc (.cells #[.int .i64 0, .string ⟨#[]⟩, .int .i64 0, .int .i64 0, .int .i64 0, .int .i64 0, .bool false] 79) = W at *
  go_upto_region 2 with (go_at_call 33; (with_reducible refine (HN.out _ k 8 hT1 ?_ ?_ ?_).mono ?_); (· omega); (· omega); (· omega); rintro e w2 ⟨q, rfl, q0, q8, hg2, hT2⟩)
  have hB2 := hB1.step hg2 (fun k h => by injection h with h; exact .inl h.symm)
  have hr2 := hr.grown hg2 (fun e => by injection e with e; omega)
  clear hT1 hB1 hr hg2
  have fin : Hid (∀ (v0 v1 v2 v3 v4 v5 v6 : Value) (k' : Nat) (wx : World), ByT w T wx → Tape wx T a cap xs k' → ByT w T (((((((wx.setCell ⟨w.heap.size, 0, none⟩ v0).setCell ⟨w.heap.size, 1, none⟩ v1).setCell ⟨w.heap.size, 2, none⟩ v2).setCell ⟨w.heap.size, 3, none⟩ v3).setCell ⟨w.heap.size, 4, none⟩ v4).setCell ⟨w.heap.size, 5, none⟩ v5).setCell ⟨w.heap.size, 6, none⟩ v6) ∧ Tape (((((((wx.setCell ⟨w.heap.size, 0, none⟩ v0).setCell ⟨w.heap.size, 1, none⟩ v1).setCell ⟨w.heap.size, 2, none⟩ v2).setCell ⟨w.heap.size, 3, none⟩ v3).setCell ⟨w.heap.size, 4, none⟩ v4).setCell ⟨w.heap.size, 5, none⟩ v5).setCell ⟨w.heap.size, 6, none⟩ v6) T a cap xs k') := by
    refine Lib.hid fun v0 v1 v2 v3 v4 v5 v6 k' wx hB hT => ⟨?_, ?_⟩
    · exact ((((((hB.set (Nat.le_refl _) _).set (Nat.le_refl _) _).set (Nat.le_refl _) _).set (Nat.le_refl _) _).set (Nat.le_refl _) _).set (Nat.le_refl _) _).set (Nat.le_refl _) _
    · have st : ∀ (wy : World) (i : Nat) (u : Value), Tape wy T a cap xs k' → Tape (wy.setCell ⟨w.heap.size, i, none⟩ u) T a cap xs k' := fun wy i u h => Tape.later hT0.out (grown_setCell _ _ _) (fun h => by injection h with h; simp only at h; omega) (fun k h => by injection h with h; simp only at h; omega) h
      exact st _ _ _ (st _ _ _ (st _ _ _ (st _ _ _ (st _ _ _ (st _ _ _ (st _ _ _ hT))))))
  by_cases c0 : q = 0
  · subst c0
    have hl2 := hr2.lt
    obtain ⟨z0, f0⟩ := hr2.cel.2 0 _ rfl
    obtain ⟨z1, f1⟩ := hr2.cel.2 1 _ rfl
    obtain ⟨z2, f2⟩ := hr2.cel.2 2 _ rfl
    obtain ⟨z3, f3⟩ := hr2.cel.2 3 _ rfl
    obtain ⟨z4, f4⟩ := hr2.cel.2 4 _ rfl
    obtain ⟨z5, f5⟩ := hr2.cel.2 5 _ rfl
    obtain ⟨z6, f6⟩ := hr2.cel.2 6 _ rfl
    go_wp2
    simp [bodyPost, results, Tryz.results124, go_sem, z0, z1, z2, z3, z4, z5, z6]
    exact ⟨blkS, rfl, SrM.blk, (fin.out _ _ _ _ _ _ _ (k + 1) _ hB2 hT2).1, k + 1, (fin.out _ _ _ _ _ _ _ (k + 1) _ hB2 hT2).2, by omega, by omega⟩
  · have q1 : (q == 0) = false := by simp [c0]
    go_upto_region 5 with (first
      | (go_at_call 163; (with_reducible refine (HR.out _ _ hT2 ?_).mono ?_); (· omega); rintro e w3 ⟨an, ad, rfl, a0, a1, a2, a3, hg3, hT3⟩)
      | (go_at_call 164; (with_reducible refine (HS.out _ _ hT3 ?_).mono ?_); (· omega); rintro e w4 ⟨sn, sd, rfl, s0, s1, s2, s3, hg4, hT4⟩)
      | (go_at_call 33; (with_reducible refine (HN.out _ _ 5 hT4 ?_ ?_ ?_).mono ?_); (· omega); (· omega); (· omega); rintro e w5 ⟨r, rfl, r0, r5, hg5, hT5⟩))
    have hr5 := ((hr2.grown hg3 (fun e => by injection e with e; omega)).grown hg4 (fun e => by injection e with e; omega)).grown hg5 (fun e => by injection e with e; omega)
    have hB5 := ((hB2.step hg3 (fun k h => by injection h with h; exact .inl h.symm)).step hg4 (fun k h => by injection h with h; exact .inl h.symm)).step hg5 (fun k h => by injection h with h; exact .inl h.symm)
    obtain ⟨bb, hbb⟩ : ∃ bb, (r == 0) = bb := ⟨_, rfl⟩
    rw [hbb]
    have hl5 := hr5.lt
    have hgn : Gr w5 (w5.alloc (.cells #[.int .i64 1, .string ⟨#[]⟩, .int .i64 an, .int .i64 ad, .int .i64 sn, .int .i64 sd, .bool bb] 79)) := (Gr.refl w5).alloc _
    have hbZ := Blk.new w5 [.int .i64 1, .string ⟨#[]⟩, .int .i64 an, .int .i64 ad, .int .i64 sn, .int .i64 sd, .bool bb] 79
    simp only [List.toArray] at hbZ
    replace hr5 := hr5.gr hgn
    replace hB5 := hB5.gr hgn
    have hT5' := hT5.gr hgn
    clear hT2 hB2 hr2 hg3 hT3 hg4 hT4 hg5 hT5 hgn hbb
    generalize w5.alloc (.cells #[.int .i64 1, .string ⟨#[]⟩, .int .i64 an, .int .i64 ad, .int .i64 sn, .int .i64 sd, .bool bb] 79) = W5 at *
    obtain ⟨Z, hZ⟩ : ∃ Z, w5.heap.size = Z := ⟨_, rfl⟩
    rw [hZ] at hbZ hl5 ⊢
    clear hZ
    have hzl := hbZ.lt
    have hTZ : T < Z := by omega
    obtain ⟨zz0, ff0⟩ := hbZ.cel.2 0 _ rfl
    obtain ⟨zz1, ff1⟩ := hbZ.cel.2 1 _ rfl
    by_cases c1 : q = 1
    · have q2 : (q == 1) = true := by simp [c1]
      go_upto_region 10 with (first
        | (go_at_call 33; (with_reducible refine (HN.out _ _ 2 hT5' ?_ ?_ ?_).mono ?_); (· omega); (· omega); (· omega); rintro e w6 ⟨m, rfl, m0, m1, hg6, hT6⟩)
        | (go_at_call 165; (with_reducible refine (HM.out _ _ _ ?_ ?_ ?_).mono ?_); (· decide); (· omega); (· omega); rintro e w7 ⟨t, rfl, ht, rfl⟩; have hb6 := hbZ.grown hg6 (fun e => by injection e with e; omega); have y := hb6.lt; obtain ⟨y0, g0⟩ := hb6.cel.2 0 _ rfl; obtain ⟨y1, g1⟩ := hb6.cel.2 1 _ rfl))
      have hbE := ((hb6.set 0 (.int .i64 2)).set 1 (.string t))
      simp only [List.set_cons_succ, List.set_cons_zero] at hbE
      have hrE := (((hr5.grown hg6 (fun e => by injection e with e; omega)).other (p := ⟨Z, 0, none⟩) (by simp only; omega) (.int .i64 2)).other (p := ⟨Z, 1, none⟩) (by simp only; omega) (.string t))
      have hBE := (((hB5.step hg6 (fun k h => by injection h with h; exact .inl h.symm)).set (p := ⟨Z, 0, none⟩) (by simp only; omega) (.int .i64 2)).set (p := ⟨Z, 1, none⟩) (by simp only; omega) (.string t))
      have hTE : Tape ((w7.setCell ⟨Z, 0, none⟩ (.int .i64 2)).setCell ⟨Z, 1, none⟩ (.string t)) T a cap xs _ := (Tape.later hT0.out (grown_setCell _ ⟨Z, 1, none⟩ (.string t)) (fun h => by injection h with h; simp only at h; omega) (fun k h => by injection h with h; simp only at h; omega) (Tape.later hT0.out (grown_setCell _ ⟨Z, 0, none⟩ (.int .i64 2)) (fun h => by injection h with h; simp only at h; omega) (fun k h => by injection h with h; simp only at h; omega) hT6))
      clear hb6 hr5 hB5 hT5' hT6 hg6 hbZ y0 g0 y1 g1 zz0 zz1 ff0 ff1
      generalize ((w7.setCell ⟨Z, 0, none⟩ (.int .i64 2)).setCell ⟨Z, 1, none⟩ (.string t)) = W7 at *
      have hl7 := hrE.lt
      have y := hbE.lt
      obtain ⟨z0, f0⟩ := hrE.cel.2 0 _ rfl
      have y0 := (hbE.cel.2 0 _ rfl).1
      obtain ⟨z1, f1⟩ := hrE.cel.2 1 _ rfl
      have y1 := (hbE.cel.2 1 _ rfl).1
      obtain ⟨z2, f2⟩ := hrE.cel.2 2 _ rfl
      have y2 := (hbE.cel.2 2 _ rfl).1
      obtain ⟨z3, f3⟩ := hrE.cel.2 3 _ rfl
      have y3 := (hbE.cel.2 3 _ rfl).1
      obtain ⟨z4, f4⟩ := hrE.cel.2 4 _ rfl
      have y4 := (hbE.cel.2 4 _ rfl).1
      obtain ⟨z5, f5⟩ := hrE.cel.2 5 _ rfl
      have y5 := (hbE.cel.2 5 _ rfl).1
      obtain ⟨z6, f6⟩ := hrE.cel.2 6 _ rfl
      have y6 := (hbE.cel.2 6 _ rfl).1
      go_wp2
      simp [bodyPost, results, Tryz.results124, go_sem, z0, z1, z2, z3, z4, z5, z6]
      exact ⟨⟨2, t, an, ad, sn, sd, bb⟩, rfl, ⟨⟨by simp only; omega, by simp only; omega⟩, ht, ⟨a0, a1⟩, ⟨a2, a3⟩, ⟨s0, s1⟩, ⟨s2, s3⟩⟩, (fin.out _ _ _ _ _ _ _ _ _ hBE hTE).1, _, (fin.out _ _ _ _ _ _ _ _ _ hBE hTE).2, by omega, by omega⟩
    · have q2 : (q == 1) = false := by simp [c1]
      go_upto_region 10 with (first
        | (go_at_call 33; (with_reducible refine (HN.out _ _ 3 hT5' ?_ ?_ ?_).mono ?_); (· omega); (· omega); (· omega); rintro e w6 ⟨m, rfl, m0, m1, hg6, hT6⟩)
        | (go_at_call 165; (with_reducible refine (HM.out _ _ _ ?_ ?_ ?_).mono ?_); (· decide); (· omega); (· omega); rintro e w7 ⟨t, rfl, ht, rfl⟩; have hb6 := hbZ.grown hg6 (fun e => by injection e with e; omega); have y := hb6.lt; obtain ⟨y0, g0⟩ := hb6.cel.2 0 _ rfl; obtain ⟨y1, g1⟩ := hb6.cel.2 1 _ rfl))
      have hbE := (hb6.set 1 (.string t))
      simp only [List.set_cons_succ, List.set_cons_zero] at hbE
      have hrE := ((hr5.grown hg6 (fun e => by injection e with e; omega)).other (p := ⟨Z, 1, none⟩) (by simp only; omega) (.string t))
      have hBE := ((hB5.step hg6 (fun k h => by injection h with h; exact .inl h.symm)).set (p := ⟨Z, 1, none⟩) (by simp only; omega) (.string t))
      have hTE : Tape (w7.setCell ⟨Z, 1, none⟩ (.string t)) T a cap xs _ := (Tape.later hT0.out (grown_setCell _ ⟨Z, 1, none⟩ (.string t)) (fun h => by injection h with h; simp only at h; omega) (fun k h => by injection h with h; simp only at h; omega) hT6)
      clear hb6 hr5 hB5 hT5' hT6 hg6 hbZ y0 g0 y1 g1 zz0 zz1 ff0 ff1
      generalize (w7.setCell ⟨Z, 1, none⟩ (.string t)) = W7 at *
      have hl7 := hrE.lt
      have y := hbE.lt
      obtain ⟨z0, f0⟩ := hrE.cel.2 0 _ rfl
      have y0 := (hbE.cel.2 0 _ rfl).1
      obtain ⟨z1, f1⟩ := hrE.cel.2 1 _ rfl
      have y1 := (hbE.cel.2 1 _ rfl).1
      obtain ⟨z2, f2⟩ := hrE.cel.2 2 _ rfl
      have y2 := (hbE.cel.2 2 _ rfl).1
      obtain ⟨z3, f3⟩ := hrE.cel.2 3 _ rfl
      have y3 := (hbE.cel.2 3 _ rfl).1
      obtain ⟨z4, f4⟩ := hrE.cel.2 4 _ rfl
      have y4 := (hbE.cel.2 4 _ rfl).1
      obtain ⟨z5, f5⟩ := hrE.cel.2 5 _ rfl
      have y5 := (hbE.cel.2 5 _ rfl).1
      obtain ⟨z6, f6⟩ := hrE.cel.2 6 _ rfl
      have y6 := (hbE.cel.2 6 _ rfl).1
      go_wp2
      simp [bodyPost, results, Tryz.results124, go_sem, z0, z1, z2, z3, z4, z5, z6]
      exact ⟨⟨1, t, an, ad, sn, sd, bb⟩, rfl, ⟨⟨by simp only; omega, by simp only; omega⟩, ht, ⟨a0, a1⟩, ⟨a2, a3⟩, ⟨s0, s1⟩, ⟨s2, s3⟩⟩, (fin.out _ _ _ _ _ _ _ _ _ hBE hTE).1, _, (fin.out _ _ _ _ _ _ _ _ _ hBE hTE).2, by omega, by omega⟩
end Go.Proofs.YtgbiodnfpbhjiaaGreatDoor
