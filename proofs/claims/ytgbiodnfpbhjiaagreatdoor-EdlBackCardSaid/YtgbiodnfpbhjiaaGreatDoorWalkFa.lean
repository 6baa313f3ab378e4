/-
  Contracts of the tape of choices: a position, a speed, a name.
  Conditions: the tape's numbers lie in memory.
-/
import Derived.Test.YtgbiodnfpbhjiaaGreatDoorWalkTp
import Derived.Lib.RuneBytes
import Derived.Deep.DeepCutAuto
namespace Go.Proofs.YtgbiodnfpbhjiaaGreatDoor
open Go.RowKit Go.Lib
set_option linter.unusedSimpArgs false
set_option linter.unusedVariables false

abbrev speedsV : List Value := [.int .i64 1, .int .i64 1, .int .i64 1, .int .i64 1, .int .i64 1, .int .i64 1, .int .i64 0, .int .i64 1, .int .i64 (-1), .int .i64 1, .int .i64 1, .int .i64 2, .int .i64 2, .int .i64 1, .int .i64 800, .int .i64 1001, .int .i64 (-3), .int .i64 2]
theorem speed_at {W : World} {G rn : Nat} (h : Cel W G speedsV) (hr : rn < 9) : ∃ n d : Int, -2000 ≤ n ∧ n ≤ 2000 ∧ 0 ≤ d ∧ d ≤ 2000 ∧ W.cell? ⟨G, rn * 2, none⟩ = some (.int .i64 n) ∧ W.cell? ⟨G, rn * 2 + 1, none⟩ = some (.int .i64 d) := by
  rcases (show rn = 0 ∨ rn = 1 ∨ rn = 2 ∨ rn = 3 ∨ rn = 4 ∨ rn = 5 ∨ rn = 6 ∨ rn = 7 ∨ rn = 8 by omega) with rfl | rfl | rfl | rfl | rfl | rfl | rfl | rfl | rfl
  · exact ⟨1, 1, by omega, by omega, by omega, by omega, (h.2 0 _ rfl).1, (h.2 1 _ rfl).1⟩
  · exact ⟨1, 1, by omega, by omega, by omega, by omega, (h.2 2 _ rfl).1, (h.2 3 _ rfl).1⟩
  · exact ⟨1, 1, by omega, by omega, by omega, by omega, (h.2 4 _ rfl).1, (h.2 5 _ rfl).1⟩
  · exact ⟨0, 1, by omega, by omega, by omega, by omega, (h.2 6 _ rfl).1, (h.2 7 _ rfl).1⟩
  · exact ⟨-1, 1, by omega, by omega, by omega, by omega, (h.2 8 _ rfl).1, (h.2 9 _ rfl).1⟩
  · exact ⟨1, 2, by omega, by omega, by omega, by omega, (h.2 10 _ rfl).1, (h.2 11 _ rfl).1⟩
  · exact ⟨2, 1, by omega, by omega, by omega, by omega, (h.2 12 _ rfl).1, (h.2 13 _ rfl).1⟩
  · exact ⟨800, 1001, by omega, by omega, by omega, by omega, (h.2 14 _ rfl).1, (h.2 15 _ rfl).1⟩
  · exact ⟨-3, 2, by omega, by omega, by omega, by omega, (h.2 16 _ rfl).1, (h.2 17 _ rfl).1⟩
set_option maxHeartbeats 4000000 in
theorem speed_any (T : Nat) (a : Option Addr) (cap : Nat) (xs : List Int) (k : Nat) (w : World) (hT : Tape w T a cap xs k) (hk : k ≤ 100000) :
    Calls Tryz.prog 164 #[.pointer (some ⟨T, 0, none⟩)] w fun e w' => ∃ n d : Int, e = .returned (.agg #[.int .i64 n, .int .i64 d]) ∧ -2000 ≤ n ∧ n ≤ 2000 ∧ 0 ≤ d ∧ d ≤ 2000 ∧ ByT w T w' ∧ Tape w' T a cap xs (k + 1) := by
  have HN : Hid (∀ w1, Gr w w1 → Calls Tryz.prog 33 #[.pointer (some ⟨T, 0, none⟩), .int .i64 9] w1 fun e w' => ∃ r : Int, e = .returned (.int .i64 r) ∧ 0 ≤ r ∧ r < 9 ∧ w1.grownBy w' (some T) ∧ Tape w' T a cap xs (k + 1)) := Lib.hid fun w1 hg => next_any T a cap xs k 9 w1 (hT.gr hg) (by omega) (by omega) (by omega)
  have hTl := hT.cel.lt
  have hT0 := Lib.hid hT
  clear hT
  have hc := Cel.new (w.alloc (.cells #[.int .i64 0, .int .i64 0] 77)) speedsV.toArray 77
  have hr := (Cel.new w #[.int .i64 0, .int .i64 0] 77).alloc (.cells speedsV.toArray 77)
  have hgA : Gr w ((w.alloc (.cells #[.int .i64 0, .int .i64 0] 77)).alloc (.cells speedsV.toArray 77)) := ((Gr.refl w).alloc _).alloc _
  rw [show (w.alloc (.cells #[.int .i64 0, .int .i64 0] 77)).heap.size = w.heap.size + 1 by simp] at hc
  simp only [List.toArray] at hc hr hgA
  go_enter Tryz.func164, Tryz.ntmps164
  go_wp2_with (go_at_call 33; (with_reducible refine (HN.out _ hgA).mono ?_); rintro e w3 ⟨r, rfl, r0, r9, hg3, hT3⟩; obtain ⟨rn, rfl⟩ : ∃ rn : Nat, r = rn := ⟨r.toNat, by omega⟩; have hc3 := hc.grown hg3 (fun e => by injection e with e; omega); have hr3 := hr.grown hg3 (fun e => by injection e with e; omega); have rl := hr3.lt; have cl := hc3.lt; obtain ⟨n, d, n0, n1, d0, d1, e0, e1⟩ := speed_at hc3 (show rn < 9 by omega); obtain ⟨z0, f0⟩ := hr3.2 0 _ rfl; obtain ⟨z1, f1⟩ := hr3.2 1 _ rfl; have hrl : rn < 9 := by omega)
  simp [bodyPost, results, Tryz.results164, go_sem, z0, z1]
  have hB : ByT w T w3 := ((ByT.refl w T).gr hgA).step hg3 (fun k h => by injection h with h; exact .inl h.symm)
  refine ⟨n, d, ⟨rfl, rfl⟩, n0, n1, d0, d1, (hB.set (Nat.le_refl _) _).set (Nat.le_refl _) _, ?_⟩
  exact Tape.later hT0.out (grown_setCell _ _ _) (fun h => by injection h with h; simp only at h; omega) (fun k h => by injection h with h; simp only at h; omega) (Tape.later hT0.out (grown_setCell _ _ _) (fun h => by injection h with h; simp only at h; omega) (fun k h => by injection h with h; simp only at h; omega) hT3)
set_option maxHeartbeats 4000000 in
theorem name_any (s : ByteArray) (n : Int) (w : World) (hs : s.size ≤ 1000) (h0 : 0 ≤ n) (h9 : n ≤ 9) :
    Calls Tryz.prog 165 #[.string s, .int .i64 n] w fun e w' => ∃ t : ByteArray, e = .returned (.string t) ∧ t.size ≤ 2000 ∧ w' = w := by
  have hE : (Utf8.encode (48 + n)).size ≤ 1 := by
    rcases (show n = 0 ∨ n = 1 ∨ n = 2 ∨ n = 3 ∨ n = 4 ∨ n = 5 ∨ n = 6 ∨ n = 7 ∨ n = 8 ∨ n = 9 by omega) with rfl | rfl | rfl | rfl | rfl | rfl | rfl | rfl | rfl | rfl <;> decide
  have hq : ¬ 9223372036854775807 < s.size + (Utf8.encode (48 + n)).size := by omega
  go_enter Tryz.func165, Tryz.ntmps165
  go_wp2
  go_ret
  exact ⟨_, rfl, by rw [ByteArray.size_append]; omega, rfl⟩
theorem densAt {W : World} {G rn : Nat} (h : Cel W G [.int .i64 1, .int .i64 1, .int .i64 1, .int .i64 2, .int .i64 3, .int .i64 1001]) (hr : rn < 6) : ∃ d : Int, 1 ≤ d ∧ d ≤ 1001 ∧ W.cell? ⟨G, rn, none⟩ = some (.int .i64 d) := by
  rcases (show rn = 0 ∨ rn = 1 ∨ rn = 2 ∨ rn = 3 ∨ rn = 4 ∨ rn = 5 by omega) with rfl | rfl | rfl | rfl | rfl | rfl
  · exact ⟨1, by omega, by omega, (h.2 0 _ rfl).1⟩
  · exact ⟨1, by omega, by omega, (h.2 1 _ rfl).1⟩
  · exact ⟨1, by omega, by omega, (h.2 2 _ rfl).1⟩
  · exact ⟨2, by omega, by omega, (h.2 3 _ rfl).1⟩
  · exact ⟨3, by omega, by omega, (h.2 4 _ rfl).1⟩
  · exact ⟨1001, by omega, by omega, (h.2 5 _ rfl).1⟩
set_option maxHeartbeats 4000000 in
theorem rat_any (T : Nat) (a : Option Addr) (cap : Nat) (xs : List Int) (k : Nat) (w : World) (hT : Tape w T a cap xs k) (hk : k ≤ 100000) :
    Calls Tryz.prog 163 #[.pointer (some ⟨T, 0, none⟩), .int .i64 40] w fun e w' => ∃ n d : Int, e = .returned (.agg #[.int .i64 n, .int .i64 d]) ∧ -2000 ≤ n ∧ n ≤ 2000 ∧ 0 ≤ d ∧ d ≤ 2000 ∧ ByT w T w' ∧ Tape w' T a cap xs (k + 2) := by
  have HN : Hid (∀ (w' : World) (k' : Nat) (n : Int), Tape w' T a cap xs k' → k' ≤ 1000000 → 1 ≤ n → n ≤ 2147483647 → Calls Tryz.prog 33 #[.pointer (some ⟨T, 0, none⟩), .int .i64 n] w' fun e w'' => ∃ r : Int, e = .returned (.int .i64 r) ∧ 0 ≤ r ∧ r < n ∧ w'.grownBy w'' (some T) ∧ Tape w'' T a cap xs (k' + 1)) := fun w' k' n h1 h2 h3 h4 => next_any T a cap xs k' n w' h1 h2 h3 h4
  have hTl := hT.cel.lt
  have hT0 := Lib.hid hT
  have hr := (Cel.new w #[.int .i64 0, .int .i64 0] 77)
  have hgA : Gr w (w.alloc (.cells #[.int .i64 0, .int .i64 0] 77)) := (Gr.refl w).alloc _
  go_enter Tryz.func163, Tryz.ntmps163
  go_upto_region 1 with fail
  have hT1 := hT.gr hgA
  have hB1 := (ByT.refl w T).gr hgA
  clear hT hgA
  generalize w.alloc (.cells #[.int .i64 0, .int .i64 0] 77) = W at *
  go_cut [5, 6] (fun t5 t6 wx => ∃ n d : Int, t5 = .int .i64 n ∧ t6 = .int .i64 d ∧ 0 ≤ n ∧ n < 40 ∧ 1 ≤ d ∧ d ≤ 1001 ∧ ByT w T wx ∧ Tape wx T a cap xs (k + 2) ∧ Cel wx w.heap.size [.int .i64 0, .int .i64 0])
  case first =>
    have hgd : Gr W W.drew := (Gr.refl W).drew
    refine wp_region_still (Keep 10 (fun _ => True)) 10 rfl (by kernel_rfl) ?_
    show stillAny _ _ _ _ _ _ #[false, false, false, false, false, false, false, false, false, false] _ _
    have hT2 := hT1.gr hgd
    have hB2 := hB1.gr hgd
    have hr2 := hr.gr hgd
    clear hT1 hB1 hr hgd
    generalize W.drew = U at *
    have hUl := hr2.lt
    refine still_pure 0 (v := .pointer (some ⟨T, 0, none⟩)) rfl (by kernel_rfl) (by kernel_rfl) (by kernel_rfl) (fun _ => trivial) rfl (fun w hw => ?_) ?_
    · simp [execOp, go_sem] <;> (intros; omega)
    simp only [Act.put, List.setIfInBounds_toArray, List.set_cons_succ, List.set_cons_zero]
    refine still_pure 1 (v := .int .i64 40) rfl (by kernel_rfl) (by kernel_rfl) (by kernel_rfl) (fun _ => trivial) rfl (fun w hw => ?_) ?_
    · simp [execOp, go_sem] <;> (intros; omega)
    simp only [Act.put, List.setIfInBounds_toArray, List.set_cons_succ, List.set_cons_zero]
    refine still_pure 4 (v := .pointer (some ⟨T, 0, none⟩)) rfl (by kernel_rfl) (by kernel_rfl) (by kernel_rfl) (fun _ => trivial) rfl (fun w hw => ?_) ?_
    · simp [execOp, go_sem] <;> (intros; omega)
    simp only [Act.put, List.setIfInBounds_toArray, List.set_cons_succ, List.set_cons_zero]
    refine still_pick [2, 3] (by kernel_rfl) (by decide) ?_
    intro i hi
    have hi : i = 2 ∨ i = 3 := by simpa using hi
    rcases hi with rfl | rfl
    · skip
      refine still_one (by rfl) (fun R hR => ?_)
      simp only [List.getElem_toArray, List.getElem_cons_succ, List.getElem_cons_zero]
      go_wp2_with (go_at_call 33; (with_reducible refine (HN.out _ k 40 hT2 ?_ ?_ ?_).mono ?_); (· omega); (· omega); (· omega); rintro e w3 ⟨n, rfl, n0, n1, hgw3, hTw3⟩)
      refine only_normal (hR _ _ (Keep.step (fun h => h)) ?_)
      clear hR R
      simp only [Act.put, List.setIfInBounds_toArray, List.set_cons_succ, List.set_cons_zero]
      have hr3 := hr2.grown hgw3 (fun e => by injection e with e; omega)
      have hB3 := hB2.step hgw3 (fun k h => by injection h with h; exact .inl h.symm)
      have hl3 := hr3.lt
      clear hr2 hB2 hT2
      refine still_pick [3, 5] (by kernel_rfl) (by decide) ?_
      intro i hi
      have hi : i = 3 ∨ i = 5 := by simpa using hi
      rcases hi with rfl | rfl
      · skip
        refine still_one (by rfl) (fun R hR => ?_)
        simp only [List.getElem_toArray, List.getElem_cons_succ, List.getElem_cons_zero]
        go_wp2_with fail
        refine only_normal (hR _ _ (Keep.step (fun h => h)) ?_)
        clear hR R
        simp only [Act.put, List.setIfInBounds_toArray, List.set_cons_succ, List.set_cons_zero]
        have hr4 := hr3.gr ((Gr.refl w3).alloc (.cells #[.int .i64 1, .int .i64 1, .int .i64 1, .int .i64 2, .int .i64 3, .int .i64 1001] 2))
        have hB4 := hB3.gr ((Gr.refl w3).alloc (.cells #[.int .i64 1, .int .i64 1, .int .i64 1, .int .i64 2, .int .i64 3, .int .i64 1001] 2))
        have hD4 := Cel.new w3 #[.int .i64 1, .int .i64 1, .int .i64 1, .int .i64 2, .int .i64 3, .int .i64 1001] 2
        have hl4 := hr4.lt
        have hT4 := hTw3.gr ((Gr.refl w3).alloc (.cells #[.int .i64 1, .int .i64 1, .int .i64 1, .int .i64 2, .int .i64 3, .int .i64 1001] 2))
        refine still_pick [5] (by kernel_rfl) (by decide) ?_
        intro i hi
        obtain rfl : i = 5 := by simpa using hi
        refine still_one (by rfl) (fun R hR => ?_)
        simp only [List.getElem_toArray, List.getElem_cons_succ, List.getElem_cons_zero]
        go_wp2_with (go_at_call 33; (with_reducible refine (HN.out _ (k + 1) 6 hT4 ?_ ?_ ?_).mono ?_); (· omega); (· omega); (· omega); rintro e w5 ⟨r, rfl, r0, r1, hgw5, hTw5⟩)
        refine only_normal (hR _ _ (Keep.step (fun h => h)) ?_)
        clear hR R
        simp only [Act.put, List.setIfInBounds_toArray, List.set_cons_succ, List.set_cons_zero]
        have hr5 := hr4.grown hgw5 (fun e => by injection e with e; omega)
        have hB5 := hB4.step hgw5 (fun k h => by injection h with h; exact .inl h.symm)
        have hl5 := hr5.lt
        have hD5 := hD4.grown hgw5 (fun e => by injection e with e; omega)
        refine still_pure 8 (v := .int .i64 n) rfl (by kernel_rfl) (by kernel_rfl) (by kernel_rfl) (fun _ => trivial) rfl (fun w hw => ?_) ?_
        · simp [execOp, go_sem] <;> (intros; omega)
        simp only [Act.put, List.setIfInBounds_toArray, List.set_cons_succ, List.set_cons_zero]
        obtain ⟨rn, rfl⟩ : ∃ rn : Nat, r = rn := ⟨r.toNat, by omega⟩
        have hrn : rn < 6 := by omega
        obtain ⟨d, d0, d1, e0⟩ := densAt hD5 hrn
        have hDl := hD5.lt
        refine still_pick [6] (by kernel_rfl) (by decide) ?_
        intro i hi
        obtain rfl : i = 6 := by simpa using hi
        refine still_one (by rfl) (fun R hR => ?_)
        simp only [List.getElem_toArray, List.getElem_cons_succ, List.getElem_cons_zero]
        go_wp2_with fail
        refine only_normal (hR _ _ (Keep.step (fun h => h)) ?_)
        clear hR R
        simp only [Act.put, List.setIfInBounds_toArray, List.set_cons_succ, List.set_cons_zero]
        refine still_pick [7] (by kernel_rfl) (by decide) ?_
        intro i hi
        obtain rfl : i = 7 := by simpa using hi
        refine still_one (by rfl) (fun R hR => ?_)
        simp only [List.getElem_toArray, List.getElem_cons_succ, List.getElem_cons_zero]
        go_wp2_with fail
        refine only_normal (hR _ _ (Keep.step (fun h => h)) ?_)
        clear hR R
        simp only [Act.put, List.setIfInBounds_toArray, List.set_cons_succ, List.set_cons_zero]
        refine still_pick [9] (by kernel_rfl) (by decide) ?_
        intro i hi
        obtain rfl : i = 9 := by simpa using hi
        refine still_one (by rfl) (fun R hR => ?_)
        simp only [List.getElem_toArray, List.getElem_cons_succ, List.getElem_cons_zero]
        go_wp2_with fail
        refine only_normal (hR _ _ (Keep.step (fun h => h)) ?_)
        clear hR R
        simp only [Act.put, List.setIfInBounds_toArray, List.set_cons_succ, List.set_cons_zero]
        refine still_done (by kernel_rfl) ?_
        go_wp2
        go_meet
        exact ⟨n, d, rfl, rfl, by omega, by omega, by omega, by omega, hB5, hTw5, hr5⟩
      · skip
        refine still_one (by rfl) (fun R hR => ?_)
        simp only [List.getElem_toArray, List.getElem_cons_succ, List.getElem_cons_zero]
        go_wp2_with (go_at_call 33; (with_reducible refine (HN.out _ (k + 1) 6 hTw3 ?_ ?_ ?_).mono ?_); (· omega); (· omega); (· omega); rintro e w5 ⟨r, rfl, r0, r1, hgw5, hTw5⟩)
        refine only_normal (hR _ _ (Keep.step (fun h => h)) ?_)
        clear hR R
        simp only [Act.put, List.setIfInBounds_toArray, List.set_cons_succ, List.set_cons_zero]
        have hr5 := hr3.grown hgw5 (fun e => by injection e with e; omega)
        have hB5 := hB3.step hgw5 (fun k h => by injection h with h; exact .inl h.symm)
        have hl5 := hr5.lt
        refine still_pure 8 (v := .int .i64 n) rfl (by kernel_rfl) (by kernel_rfl) (by kernel_rfl) (fun _ => trivial) rfl (fun w hw => ?_) ?_
        · simp [execOp, go_sem] <;> (intros; omega)
        simp only [Act.put, List.setIfInBounds_toArray, List.set_cons_succ, List.set_cons_zero]
        refine still_pick [3] (by kernel_rfl) (by decide) ?_
        intro i hi
        obtain rfl : i = 3 := by simpa using hi
        refine still_one (by rfl) (fun R hR => ?_)
        simp only [List.getElem_toArray, List.getElem_cons_succ, List.getElem_cons_zero]
        go_wp2_with fail
        refine only_normal (hR _ _ (Keep.step (fun h => h)) ?_)
        clear hR R
        simp only [Act.put, List.setIfInBounds_toArray, List.set_cons_succ, List.set_cons_zero]
        have hr6 := hr5.gr ((Gr.refl w5).alloc (.cells #[.int .i64 1, .int .i64 1, .int .i64 1, .int .i64 2, .int .i64 3, .int .i64 1001] 2))
        have hB6 := hB5.gr ((Gr.refl w5).alloc (.cells #[.int .i64 1, .int .i64 1, .int .i64 1, .int .i64 2, .int .i64 3, .int .i64 1001] 2))
        have hD6 := Cel.new w5 #[.int .i64 1, .int .i64 1, .int .i64 1, .int .i64 2, .int .i64 3, .int .i64 1001] 2
        have hl6 := hr6.lt
        obtain ⟨rn, rfl⟩ : ∃ rn : Nat, r = rn := ⟨r.toNat, by omega⟩
        have hrn : rn < 6 := by omega
        obtain ⟨d, d0, d1, e0⟩ := densAt hD6 hrn
        have hDl := hD6.lt
        refine still_pick [6] (by kernel_rfl) (by decide) ?_
        intro i hi
        obtain rfl : i = 6 := by simpa using hi
        refine still_one (by rfl) (fun R hR => ?_)
        simp only [List.getElem_toArray, List.getElem_cons_succ, List.getElem_cons_zero]
        go_wp2_with fail
        refine only_normal (hR _ _ (Keep.step (fun h => h)) ?_)
        clear hR R
        simp only [Act.put, List.setIfInBounds_toArray, List.set_cons_succ, List.set_cons_zero]
        refine still_pick [7] (by kernel_rfl) (by decide) ?_
        intro i hi
        obtain rfl : i = 7 := by simpa using hi
        refine still_one (by rfl) (fun R hR => ?_)
        simp only [List.getElem_toArray, List.getElem_cons_succ, List.getElem_cons_zero]
        go_wp2_with fail
        refine only_normal (hR _ _ (Keep.step (fun h => h)) ?_)
        clear hR R
        simp only [Act.put, List.setIfInBounds_toArray, List.set_cons_succ, List.set_cons_zero]
        refine still_pick [9] (by kernel_rfl) (by decide) ?_
        intro i hi
        obtain rfl : i = 9 := by simpa using hi
        refine still_one (by rfl) (fun R hR => ?_)
        simp only [List.getElem_toArray, List.getElem_cons_succ, List.getElem_cons_zero]
        go_wp2_with fail
        refine only_normal (hR _ _ (Keep.step (fun h => h)) ?_)
        clear hR R
        simp only [Act.put, List.setIfInBounds_toArray, List.set_cons_succ, List.set_cons_zero]
        refine still_done (by kernel_rfl) ?_
        go_wp2
        go_meet
        exact ⟨n, d, rfl, rfl, by omega, by omega, by omega, by omega, hB6, (hTw5.gr ((Gr.refl w5).alloc (.cells #[.int .i64 1, .int .i64 1, .int .i64 1, .int .i64 2, .int .i64 3, .int .i64 1001] 2))), hr6⟩
    · skip
      refine still_one (by rfl) (fun R hR => ?_)
      simp only [List.getElem_toArray, List.getElem_cons_succ, List.getElem_cons_zero]
      go_wp2_with fail
      refine only_normal (hR _ _ (Keep.step (fun h => h)) ?_)
      clear hR R
      simp only [Act.put, List.setIfInBounds_toArray, List.set_cons_succ, List.set_cons_zero]
      have hr3 := hr2.gr ((Gr.refl U).alloc (.cells #[.int .i64 1, .int .i64 1, .int .i64 1, .int .i64 2, .int .i64 3, .int .i64 1001] 2))
      have hB3 := hB2.gr ((Gr.refl U).alloc (.cells #[.int .i64 1, .int .i64 1, .int .i64 1, .int .i64 2, .int .i64 3, .int .i64 1001] 2))
      have hD3 := Cel.new U #[.int .i64 1, .int .i64 1, .int .i64 1, .int .i64 2, .int .i64 3, .int .i64 1001] 2
      have hl3 := hr3.lt
      have hT3 := hT2.gr ((Gr.refl U).alloc (.cells #[.int .i64 1, .int .i64 1, .int .i64 1, .int .i64 2, .int .i64 3, .int .i64 1001] 2))
      refine still_pick [2] (by kernel_rfl) (by decide) ?_
      intro i hi
      obtain rfl : i = 2 := by simpa using hi
      refine still_one (by rfl) (fun R hR => ?_)
      simp only [List.getElem_toArray, List.getElem_cons_succ, List.getElem_cons_zero]
      go_wp2_with (go_at_call 33; (with_reducible refine (HN.out _ k 40 hT3 ?_ ?_ ?_).mono ?_); (· omega); (· omega); (· omega); rintro e w4 ⟨n, rfl, n0, n1, hgw4, hTw4⟩)
      refine only_normal (hR _ _ (Keep.step (fun h => h)) ?_)
      clear hR R
      simp only [Act.put, List.setIfInBounds_toArray, List.set_cons_succ, List.set_cons_zero]
      have hr4 := hr3.grown hgw4 (fun e => by injection e with e; omega)
      have hB4 := hB3.step hgw4 (fun k h => by injection h with h; exact .inl h.symm)
      have hl4 := hr4.lt
      have hD4 := hD3.grown hgw4 (fun e => by injection e with e; omega)
      refine still_pick [5] (by kernel_rfl) (by decide) ?_
      intro i hi
      obtain rfl : i = 5 := by simpa using hi
      refine still_one (by rfl) (fun R hR => ?_)
      simp only [List.getElem_toArray, List.getElem_cons_succ, List.getElem_cons_zero]
      go_wp2_with (go_at_call 33; (with_reducible refine (HN.out _ (k + 1) 6 hTw4 ?_ ?_ ?_).mono ?_); (· omega); (· omega); (· omega); rintro e w5 ⟨r, rfl, r0, r1, hgw5, hTw5⟩)
      refine only_normal (hR _ _ (Keep.step (fun h => h)) ?_)
      clear hR R
      simp only [Act.put, List.setIfInBounds_toArray, List.set_cons_succ, List.set_cons_zero]
      have hr5 := hr4.grown hgw5 (fun e => by injection e with e; omega)
      have hB5 := hB4.step hgw5 (fun k h => by injection h with h; exact .inl h.symm)
      have hl5 := hr5.lt
      have hD5 := hD4.grown hgw5 (fun e => by injection e with e; omega)
      refine still_pure 8 (v := .int .i64 n) rfl (by kernel_rfl) (by kernel_rfl) (by kernel_rfl) (fun _ => trivial) rfl (fun w hw => ?_) ?_
      · simp [execOp, go_sem] <;> (intros; omega)
      simp only [Act.put, List.setIfInBounds_toArray, List.set_cons_succ, List.set_cons_zero]
      obtain ⟨rn, rfl⟩ : ∃ rn : Nat, r = rn := ⟨r.toNat, by omega⟩
      have hrn : rn < 6 := by omega
      obtain ⟨d, d0, d1, e0⟩ := densAt hD5 hrn
      have hDl := hD5.lt
      refine still_pick [6] (by kernel_rfl) (by decide) ?_
      intro i hi
      obtain rfl : i = 6 := by simpa using hi
      refine still_one (by rfl) (fun R hR => ?_)
      simp only [List.getElem_toArray, List.getElem_cons_succ, List.getElem_cons_zero]
      go_wp2_with fail
      refine only_normal (hR _ _ (Keep.step (fun h => h)) ?_)
      clear hR R
      simp only [Act.put, List.setIfInBounds_toArray, List.set_cons_succ, List.set_cons_zero]
      refine still_pick [7] (by kernel_rfl) (by decide) ?_
      intro i hi
      obtain rfl : i = 7 := by simpa using hi
      refine still_one (by rfl) (fun R hR => ?_)
      simp only [List.getElem_toArray, List.getElem_cons_succ, List.getElem_cons_zero]
      go_wp2_with fail
      refine only_normal (hR _ _ (Keep.step (fun h => h)) ?_)
      clear hR R
      simp only [Act.put, List.setIfInBounds_toArray, List.set_cons_succ, List.set_cons_zero]
      refine still_pick [9] (by kernel_rfl) (by decide) ?_
      intro i hi
      obtain rfl : i = 9 := by simpa using hi
      refine still_one (by rfl) (fun R hR => ?_)
      simp only [List.getElem_toArray, List.getElem_cons_succ, List.getElem_cons_zero]
      go_wp2_with fail
      refine only_normal (hR _ _ (Keep.step (fun h => h)) ?_)
      clear hR R
      simp only [Act.put, List.setIfInBounds_toArray, List.set_cons_succ, List.set_cons_zero]
      refine still_done (by kernel_rfl) ?_
      go_wp2
      go_meet
      exact ⟨n, d, rfl, rfl, by omega, by omega, by omega, by omega, hB5, hTw5, hr5⟩
  case rest =>
    obtain ⟨n, d, rfl, rfl, n0, n1, d0, d1, hB, hTx, hrx⟩ := hcut
    clear hT1 hB1 hr
    have hl := hrx.lt
    go_wp2
    go_loopw [7, 8] (fun g x wr => ∃ gi xi : Int, g = .int .i64 gi ∧ x = .int .i64 xi ∧ 0 ≤ gi ∧ gi ≤ 1001 ∧ 0 ≤ xi ∧ xi ≤ 1001 ∧ 1 ≤ gi + xi ∧ Gr wc wr) (fun _ x _ => (RowKit.intOf x).toNat)
    case atStart => exact ⟨n, d, rfl, rfl, by omega, by omega, by omega, by omega, by omega, Gr.refl _⟩
    case round =>
      obtain ⟨g, x, rfl, rfl, g0, g1, x0, x1, gx, hg⟩ := hrel
      by_cases c1 : x = 0
      · have q1 : (x != 0) = false := by simp [c1]
        subst c1
        have hB3 := hB.gr hg
        have hT3 := hTx.gr hg
        have hr3 := hrx.gr hg
        have hl3 := hr3.lt
        obtain ⟨z0, f0⟩ := hr3.2 0 _ rfl
        obtain ⟨z1, f1⟩ := hr3.2 1 _ rfl
        by_cases c2 : n = 0
        · have q2 : (n == 0) = true := by simp [c2]
          go_wp2
          simp [bodyPost, results, Tryz.results163, go_sem, z0, z1]
          refine ⟨0, 1, ⟨rfl, rfl⟩, by omega, by omega, by omega, by omega, (hB3.set (Nat.le_refl _) _).set (Nat.le_refl _) _, ?_⟩
          exact Tape.later hT0.out (grown_setCell _ _ _) (fun h => by injection h with h; simp only at h; omega) (fun k h => by injection h with h; simp only at h; omega) (Tape.later hT0.out (grown_setCell _ _ _) (fun h => by injection h with h; simp only at h; omega) (fun k h => by injection h with h; simp only at h; omega) hT3)
        · have q2 : (n == 0) = false := by simp [c2]
          have e1 : 0 ≤ n.tdiv g ∧ n.tdiv g ≤ 40 := by
            rw [Int.tdiv_eq_ediv_of_nonneg (by omega)]
            exact ⟨Int.ediv_nonneg (by omega) (by omega), Int.le_trans (Int.ediv_le_self _ (by omega)) (by omega)⟩
          have e2 : 0 ≤ d.tdiv g ∧ d.tdiv g ≤ 1001 := by
            rw [Int.tdiv_eq_ediv_of_nonneg (by omega)]
            exact ⟨Int.ediv_nonneg (by omega) (by omega), Int.le_trans (Int.ediv_le_self _ (by omega)) (by omega)⟩
          have hg0 : ¬ g = 0 := by omega
          go_wp2
          have hgd : Gr wr wr.drew := (Gr.refl wr).drew
          refine wp_region_still (Keep 7 (fun _ => True)) 8 rfl (by kernel_rfl) ?_
          show stillAny _ _ _ _ _ _ #[false, false, false, false, false, false, false, false] _ _
          have hB4 := hB3.gr hgd
          have hT4 := hT3.gr hgd
          have hr4 := hr3.gr hgd
          clear hB3 hT3 hr3 hgd z0 z1 f0 f1 hl3
          generalize wr.drew = U at *
          have hl4 := hr4.lt
          obtain ⟨z0, f0⟩ := hr4.2 0 _ rfl
          obtain ⟨z1, f1⟩ := hr4.2 1 _ rfl
          refine still_pure 0 (v := .int .i64 n) rfl (by kernel_rfl) (by kernel_rfl) (by kernel_rfl) (fun _ => trivial) rfl (fun w hw => ?_) ?_
          · simp [execOp, go_sem] <;> (intros; omega)
          simp only [Act.put, List.setIfInBounds_toArray, List.set_cons_succ, List.set_cons_zero]
          refine still_pure 1 (v := .int .i64 g) rfl (by kernel_rfl) (by kernel_rfl) (by kernel_rfl) (fun _ => trivial) rfl (fun w hw => ?_) ?_
          · simp [execOp, go_sem] <;> (intros; omega)
          simp only [Act.put, List.setIfInBounds_toArray, List.set_cons_succ, List.set_cons_zero]
          refine still_pure 3 (v := .int .i64 d) rfl (by kernel_rfl) (by kernel_rfl) (by kernel_rfl) (fun _ => trivial) rfl (fun w hw => ?_) ?_
          · simp [execOp, go_sem] <;> (intros; omega)
          simp only [Act.put, List.setIfInBounds_toArray, List.set_cons_succ, List.set_cons_zero]
          refine still_pure 4 (v := .int .i64 g) rfl (by kernel_rfl) (by kernel_rfl) (by kernel_rfl) (fun _ => trivial) rfl (fun w hw => ?_) ?_
          · simp [execOp, go_sem] <;> (intros; omega)
          simp only [Act.put, List.setIfInBounds_toArray, List.set_cons_succ, List.set_cons_zero]
          have hw1 : IntKind.i64.wrap (n.tdiv g) = n.tdiv g := by rw [IntKind.wrap_i64]; omega
          have hw2 : IntKind.i64.wrap (d.tdiv g) = d.tdiv g := by rw [IntKind.wrap_i64]; omega
          refine still_pure 2 (v := .int .i64 (n.tdiv g)) rfl (by kernel_rfl) (by kernel_rfl) (by kernel_rfl) (fun _ => trivial) rfl (fun w hw => ?_) ?_
          · simp [execOp, go_sem, hg0, hw1]
          simp only [Act.put, List.setIfInBounds_toArray, List.set_cons_succ, List.set_cons_zero]
          refine still_pure 5 (v := .int .i64 (d.tdiv g)) rfl (by kernel_rfl) (by kernel_rfl) (by kernel_rfl) (fun _ => trivial) rfl (fun w hw => ?_) ?_
          · simp [execOp, go_sem, hg0, hw2]
          simp only [Act.put, List.setIfInBounds_toArray, List.set_cons_succ, List.set_cons_zero]
          refine still_pure 6 (v := .agg #[.int .i64 (n.tdiv g), .int .i64 (d.tdiv g)]) rfl (by kernel_rfl) (by kernel_rfl) (by kernel_rfl) (fun _ => trivial) rfl (fun w hw => ?_) ?_
          · simp [execOp, go_sem] <;> (intros; omega)
          simp only [Act.put, List.setIfInBounds_toArray, List.set_cons_succ, List.set_cons_zero]
          refine still_pick [7] (by kernel_rfl) (by decide) ?_
          intro i hi
          obtain rfl : i = 7 := by simpa using hi
          refine still_one (by first | (simp only [List.getElem?_toArray, List.getElem?_cons_succ, List.getElem?_cons_zero]; rfl) | rfl) (fun R hR => ?_)
          (try simp only [List.getElem_toArray, List.getElem_cons_succ, List.getElem_cons_zero])
          go_wp2_with fail
          refine only_normal (hR _ _ (Keep.step (fun h => h)) ?_)
          clear hR R
          simp only [Act.put, List.setIfInBounds_toArray, List.set_cons_succ, List.set_cons_zero]
          refine still_done (by kernel_rfl) ?_
          go_wp2
          simp [bodyPost, results, Tryz.results163, go_sem, z0, z1]
          refine ⟨n.tdiv g, d.tdiv g, ⟨rfl, rfl⟩, by omega, by omega, by omega, by omega, (hB4.set (Nat.le_refl _) _).set (Nat.le_refl _) _, ?_⟩
          exact Tape.later hT0.out (grown_setCell _ _ _) (fun h => by injection h with h; simp only at h; omega) (fun k h => by injection h with h; simp only at h; omega) (Tape.later hT0.out (grown_setCell _ _ _) (fun h => by injection h with h; simp only at h; omega) (fun k h => by injection h with h; simp only at h; omega) hT4)
      · have q1 : (x != 0) = true := by simp [c1]
        have m1 := Int.emod_lt_of_pos g (show 0 < x by omega)
        have m2 := Int.emod_nonneg g (show x ≠ 0 by omega)
        go_wp2
        refine wp_region_gr (by kernel_rfl) (by kernel_rfl) (fun hq1 hq2 => ?_)
        repeat (first | go_big_quiet_skip | (go_big_quiet_want; go_big_quiet_op; first | go_big_quiet_on | (apply Exists.intro; refine ⟨fun _ => ?_, ?_⟩; (· (fail)); go_big_quiet_on)))
        refine wpQuiet_nil ?_
        clear hq1 hq2
        rintro w1 ⟨⟨_, hg1⟩, rfl⟩
        obtain ⟨hc1, hf1⟩ := hg1.cells
        have hz1 := hg1.size
        (try simp at hz1); (try have hl1_0_0 : w.heap.size < w1.heap.size := by omega); (try have hm1_0_0 : w.heap.size ≤ w1.heap.size := by omega); (try have hl1_0_1 : w.heap.size + 1 < w1.heap.size := by omega); (try have hl1_0_2 : w.heap.size + 2 < w1.heap.size := by omega)
        go_wp2
        go_roundw
        case rel => exact ⟨x, g % x, rfl, rfl, by omega, by omega, by omega, by omega, by omega, (by repeat (first | with_reducible exact Gr.refl _ | with_reducible assumption | refine Gr.setCell ?_ (by first | omega | (simp; done) | (simp; omega)) _ | refine Gr.alloc ?_ _ | refine Gr.drew ?_ | refine Gr.drewN ?_ _ | refine Gr.trans ?_ (by with_reducible assumption)))⟩
        case measure => simp [RowKit.intOf]; omega
end Go.Proofs.YtgbiodnfpbhjiaaGreatDoor
