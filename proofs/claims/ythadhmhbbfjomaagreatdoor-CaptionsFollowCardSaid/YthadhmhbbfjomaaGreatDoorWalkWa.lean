
/-
  Contract of the wrapper's add.
  Conditions: the lines are at most four million; the width is one at least.
-/
import Derived.Test.YthadhmhbbfjomaaGreatDoorWalkBd
namespace Go.Proofs.YthadhmhbbfjomaaGreatDoor
open Go.RowKit Go.Lib
set_option linter.unusedSimpArgs false
set_option linter.unusedVariables false

theorem ba_take (s : ByteArray) (k : Nat) : s.extract 0 k = ⟨(s.data.toList.take k).toArray⟩ := ba_ext (by rw [ba_ex]; simp)
theorem ba_dropE (s : ByteArray) (k : Nat) : (s.extract k s.size).data.toList = s.data.toList.drop k := by
  rw [ba_ex, List.take_of_length_le]
  rw [List.length_drop, ba_len]
  omega
theorem Bu.gr {w w' : World} {b o : Nat} {T : TypeId} {vs : List Value} {base : Nat} {p v : Value} {l : List UInt8} (h : Bu w b o T vs base p v l) (hg : Gr w w') : Bu w' b o T vs base p v l :=
  ⟨h.blk.gr hg, h.hp, h.hv, h.self, World.ownsRowF.kept h.own hg.by0 (Classical.em _), h.lies, h.ne⟩
theorem Wr.gr {w w' : World} {B : Nat} {k : Int} {lv p bv : Value} {ls : List ByteArray} {cur : List UInt8} (h : Wr w B k lv p bv ls cur) (hg : Gr w w') : Wr w' B k lv p bv ls cur :=
  ⟨h.blk.gr hg, h.lines.gr hg, h.self, World.ownsRowF.kept h.own hg.by0 (Classical.em _)⟩
def strLen (v : Value) : Nat := match v with | .string t => t.size | _ => 0
/-- writing into the builder of a wrapper -/
theorem Wr.write (B k : Nat) (lv p bv : Value) (ls : List ByteArray) (cur : List UInt8) (s : ByteArray) (w : World) (h : Wr w B k lv p bv ls cur) (hl : cur.length + s.size ≤ 140737488355328) :
    Calls Tryz.prog 40 #[.pointer (some ⟨B, 2, none⟩), .string s] w fun e w' => ∃ p' bv', e = .returned (.tuple #[.int .i64 s.size, .nilIface]) ∧ Wr w' B k lv p' bv' ls (cur ++ s.data.toList) ∧ By (fun j => B ≤ j) w w' := by
  have hr1 := rows_ne h.lines h.own (by decide)
  have hbge := ownF_ge h.own
  have hlB := h.blk.row h.lines (by decide)
  refine (ws_any B 2 _ _ (B + 1) p bv cur s w h.bu hl (by have := h.blk.lt; omega)).mono ?_
  rintro e w' ⟨v', rfl, hU, hy⟩
  refine ⟨_, v', rfl, ⟨hU.blk, hy.grownBy (fun j hj he => ?_) h.lines, .inr rfl, hU.own⟩, hy.mono (fun j _ hj => ?_)⟩
  · rcases he with he | he
    · exact hlB (by rw [hj, he])
    · rcases hr1 with h1 | h1
      · rw [h1] at hj; cases hj
      · exact h1 (by rw [hj, he])
  · rcases hj with hj | hj
    · rw [hj]; exact Nat.le_refl _
    · have := hbge j hj; omega

set_option maxRecDepth 20000 in
set_option maxHeartbeats 8000000 in
theorem add_any (B k : Nat) (lv p bv : Value) (ls : List ByteArray) (cur : List UInt8) (s : ByteArray) (w : World) (h : Wr w B k lv p bv ls cur) (hk : 1 ≤ k) (hk2 : (k : Int) ≤ 9223372036854775807) (hn : ls.length + s.size ≤ 3999990) (hcl : cur.length ≤ 4000000) :
    Calls Tryz.prog 44 #[.pointer (some ⟨B, 0, none⟩), .string s] w fun e w' => ∃ lv' p' bv', e = .returned (.tuple #[]) ∧ Wr w' B k lv' p' bv' (addW k (ls, cur) s.data.toList).1 (addW k (ls, cur) s.data.toList).2 ∧ By (fun j => B ≤ j) w w' := by
  have HL : Hid (∀ w', Gr w w' → Calls Tryz.prog 72 #[.pointer (some ⟨B, 2, none⟩)] w' fun e w'' => e = .returned (.int .i64 cur.length) ∧ w' = w'') := fun w' hg => len_any B 2 _ _ _ p bv cur w' (h.bu.gr hg)
  have hb0 := h.blk.cell 0
  simp at hb0
  have hBl := h.blk.lt
  have h := Lib.hid h
  by_cases hc : cur ≠ [] ∧ cur.length + 1 + s.size ≤ k
  · have q1 : decide (0 < cur.length) = true := decide_eq_true (by have : cur.length ≠ 0 := fun e => hc.1 (List.eq_nil_of_length_eq_zero e); omega)
    have q2 : decide ((cur.length : Int) + 1 + s.size ≤ k) = true := decide_eq_true (by omega)
    go_enter Tryz.func44, Tryz.ntmps44
    go_wp2
    refine wp_region_gr (by kernel_rfl) (by kernel_rfl) (fun hq1 hq2 => ?_)
    repeat (first | go_big_quiet_skip | (go_big_quiet_want; go_big_quiet_op; first | go_big_quiet_on | (apply Exists.intro; refine ⟨fun _ => ?_, ?_⟩; (· ((go_at_call 72; exact gr_call_same (HL.out _ (GW.h _))))); go_big_quiet_on)))
    refine wpQuiet_nil ?_
    clear hq1 hq2
    rintro w1 ⟨⟨_, hg1⟩, rfl⟩
    obtain ⟨hc1, hf1⟩ := hg1.cells
    have hz1 := hg1.size
    (try simp at hz1); (try have hl1_0_0 : w.heap.size < w1.heap.size := by omega); (try have hm1_0_0 : w.heap.size ≤ w1.heap.size := by omega); (try have hl1_0_1 : w.heap.size + 1 < w1.heap.size := by omega); (try have hl1_0_2 : w.heap.size + 2 < w1.heap.size := by omega)
    have HW : Hid (∀ p bv cur (t : ByteArray) w, Wr w B k lv p bv ls cur → cur.length + t.size ≤ 140737488355328 → Calls Tryz.prog 40 #[.pointer (some ⟨B, 2, none⟩), .string t] w fun e w' => ∃ p' bv', e = .returned (.tuple #[.int .i64 t.size, .nilIface]) ∧ Wr w' B k lv p' bv' ls (cur ++ t.data.toList) ∧ By (fun j => B ≤ j) w w') := fun p bv cur t w h1 h2 => Wr.write B k lv p bv ls cur t w h1 h2
    have hw1 := h.out.gr hg1
    have hy1 : By (fun j => B ≤ j) w w1 := By.of_gr hg1
    clear hg1 hc1 hf1
    go_wp2_with (first
      | (go_at_call 40; (with_reducible refine (HW.out p bv cur ⟨#[32]⟩ _ hw1 ?_).mono ?_); (· show _ + 1 ≤ _; omega); rintro e w2 ⟨p2, b2, rfl, hw2, hy2⟩)
      | (go_at_call 40; (with_reducible refine (HW.out p2 b2 _ s _ hw2 ?_).mono ?_); (· rw [List.length_append]; show _ + 1 + _ ≤ _; omega); rintro e w3 ⟨p3, b3, rfl, hw3, hy3⟩))
    refine bodyPost_ret (results_none rfl _ _ _) rfl ?_
    refine ⟨lv, p3, b3, rfl, ?_, (hy1.trans (S := fun j => B ≤ j) hy2 (fun _ _ h => h)).trans hy3 (fun _ _ h => h)⟩
    unfold addW
    rw [if_pos ⟨hc.1, by rw [ba_len]; exact hc.2⟩]
    have e : cur ++ (⟨#[32]⟩ : ByteArray).data.toList ++ s.data.toList = cur ++ 32 :: s.data.toList := by simp
    rw [e] at hw3
    exact hw3
  · have hq : cur = [] ∨ (cur ≠ [] ∧ ¬ cur.length + 1 + s.size ≤ k) := by
      by_cases h1 : cur = []
      · exact .inl h1
      · exact .inr ⟨h1, fun h2 => hc ⟨h1, h2⟩⟩
    have HE : Hid (∀ w, Wr w B k lv p bv ls cur → Calls Tryz.prog 45 #[.pointer (some ⟨B, 0, none⟩)] w fun e w' => ∃ lv' p' bv', e = .returned (.tuple #[]) ∧ Wr w' B k lv' p' bv' (endL ls cur) [] ∧ By (fun j => B ≤ j) w w') := fun w hw => end_any B k lv p bv ls cur w hw (by omega) (by omega)
    obtain ⟨R1, R2, hR⟩ : ∃ R1 R2, addW k (ls, cur) s.data.toList = (R1, R2) := ⟨_, _, rfl⟩
    rw [hR]
    have hRR : Hid (∃ f, s.size ≤ f ∧ endL ls cur ++ (chop k f s.data.toList).1 = R1 ∧ (chop k f s.data.toList).2 = R2) := by
      refine ⟨s.size, Nat.le_refl _, ?_⟩
      unfold addW at hR
      rw [if_neg (by rw [ba_len]; exact hc), ba_len] at hR
      injection hR with h1 h2
      exact ⟨h1, h2⟩
    have hel := endL_len ls cur
    obtain ⟨is, his, hs0, hs1, hs2⟩ := info_parts infoStr
    clear hc hR
    rcases hq with hq | ⟨hq1, hq2⟩
    · subst hq; have q1 : decide (0 < ([] : List UInt8).length) = false := rfl
      go_enter Tryz.func44, Tryz.ntmps44
      go_wp2
      refine wp_region_gr (by kernel_rfl) (by kernel_rfl) (fun hq1 hq2 => ?_)
      repeat (first | go_big_quiet_skip | (go_big_quiet_want; go_big_quiet_op; first | go_big_quiet_on | (apply Exists.intro; refine ⟨fun _ => ?_, ?_⟩; (· ((go_at_call 72; exact gr_call_same (HL.out _ (GW.h _))))); go_big_quiet_on)))
      refine wpQuiet_nil ?_
      clear hq1 hq2
      rintro w1 ⟨⟨_, hg1⟩, rfl⟩
      obtain ⟨hc1, hf1⟩ := hg1.cells
      have hz1 := hg1.size
      (try simp at hz1); (try have hl1_0_0 : w.heap.size < w1.heap.size := by omega); (try have hm1_0_0 : w.heap.size ≤ w1.heap.size := by omega); (try have hl1_0_1 : w.heap.size + 1 < w1.heap.size := by omega); (try have hl1_0_2 : w.heap.size + 2 < w1.heap.size := by omega)
      have hw1 := h.out.gr hg1
      have hy1 : By (fun j => B ≤ j) w w1 := By.of_gr hg1
      clear hg1 hc1 hf1
      go_wp2_with (go_at_call 45; (with_reducible refine (HE.out _ hw1).mono ?_); rintro e w2 ⟨lv2, p2, b2, rfl, hw2, hy2⟩)
      go_loopw [1] (fun v wr => ∃ (t : ByteArray) (lv' p' bv' : Value) (ls' : List ByteArray), v = .string t ∧ Wr wr B k lv' p' bv' ls' [] ∧ By (fun j => B ≤ j) w wr ∧ ls'.length + t.size ≤ 3999995 ∧ Hid (∃ f, t.size ≤ f ∧ ls' ++ (chop k f t.data.toList).1 = R1 ∧ (chop k f t.data.toList).2 = R2)) (fun v _ => strLen v)
      case atStart => exact ⟨s, lv2, p2, b2, _, rfl, hw2, hy1.trans (S' := fun j => B ≤ j) hy2 (fun _ _ h => h), by omega, hRR⟩
      case round =>
        obtain ⟨t, lv', p', bv', ls', rfl, hw', hy', hln, hch⟩ := hrel
        clear hw1 hy1 hw2 hy2 HL HE hb0
        have hb0 := hw'.blk.cell 0
        simp at hb0
        have hw' := Lib.hid hw'
        by_cases g : k < t.size
        · have g1 : decide ((k : Int) < t.size) = true := decide_eq_true (by omega)
          go_wp2
          obtain ⟨al, cl, rfl⟩ := own_shape hw'.out.lines
          have hlB := hw'.out.blk.row hw'.out.lines (by decide)
          have hlge := own_ge hw'.out.lines
          have hr1 := rows_ne hw'.out.lines hw'.out.own (by decide)
          have hbB := hw'.out.blk.rowF hw'.out.own (by decide)
          have hr1 := Lib.hid hr1
          have hb := hw'.out.blk
          have hL1 := hw'.out.lines
          refine wp_region_still (Keep 11 (fun x => Blk x B 104 [.int .i64 k, .slice al ls'.length cl, p', bv'])) 16 rfl (by kernel_rfl) ?_
          show stillAny _ _ _ _ _ _ #[false, false, false, false, false, false, false, false, false, false, false, false, false, false, false, false] _ _
          refine still_pure 0 (v := .pointer (some ⟨B, 0, none⟩)) rfl (by kernel_rfl) (by kernel_rfl) (by kernel_rfl) (fun _ => hb) rfl (fun w hw => ?_) ?_
          · simp [execOp, go_sem] <;> (intros; omega)
          simp only [Act.put, List.setIfInBounds_toArray, List.set_cons_succ, List.set_cons_zero]
          refine still_pure 1 (v := .pointer (some ⟨B, 0, none⟩)) rfl (by kernel_rfl) (by kernel_rfl) (by kernel_rfl) (fun _ => hb) rfl (fun w hw => ?_) ?_
          · simp [execOp, go_sem] <;> (intros; omega)
          simp only [Act.put, List.setIfInBounds_toArray, List.set_cons_succ, List.set_cons_zero]
          refine still_pure 2 (v := .pointer (some ⟨B, 0, none⟩)) rfl (by kernel_rfl) (by kernel_rfl) (by kernel_rfl) (fun _ => hb) rfl (fun w hw => ?_) ?_
          · simp [execOp, go_sem] <;> (intros; omega)
          simp only [Act.put, List.setIfInBounds_toArray, List.set_cons_succ, List.set_cons_zero]
          refine still_pure 3 (v := .pointer (some ⟨B, 1, none⟩)) rfl (by kernel_rfl) (by kernel_rfl) (by kernel_rfl) (fun _ => hb) rfl (fun w hw => ?_) ?_
          · simp [execOp, go_sem] <;> (intros; omega)
          simp only [Act.put, List.setIfInBounds_toArray, List.set_cons_succ, List.set_cons_zero]
          refine still_pure 4 (v := .slice al ls'.length cl) rfl (by kernel_rfl) (by kernel_rfl) (by kernel_rfl) (fun _ => hb) rfl (fun w hw => ?_) ?_
          · replace hw := hw (by decide)
            have hq0 := hw.cell 1
            (try simp at hq0)
            simp [execOp, go_sem, hq0]
          simp only [Act.put, List.setIfInBounds_toArray, List.set_cons_succ, List.set_cons_zero]
          refine still_pure 5 (v := .string t) rfl (by kernel_rfl) (by kernel_rfl) (by kernel_rfl) (fun _ => hb) rfl (fun w hw => ?_) ?_
          · simp [execOp, go_sem] <;> (intros; omega)
          simp only [Act.put, List.setIfInBounds_toArray, List.set_cons_succ, List.set_cons_zero]
          refine still_pure 6 (v := .pointer (some ⟨B, 0, none⟩)) rfl (by kernel_rfl) (by kernel_rfl) (by kernel_rfl) (fun _ => hb) rfl (fun w hw => ?_) ?_
          · simp [execOp, go_sem] <;> (intros; omega)
          simp only [Act.put, List.setIfInBounds_toArray, List.set_cons_succ, List.set_cons_zero]
          refine still_pure 7 (v := .pointer (some ⟨B, 0, none⟩)) rfl (by kernel_rfl) (by kernel_rfl) (by kernel_rfl) (fun _ => hb) rfl (fun w hw => ?_) ?_
          · simp [execOp, go_sem] <;> (intros; omega)
          simp only [Act.put, List.setIfInBounds_toArray, List.set_cons_succ, List.set_cons_zero]
          refine still_pure 8 (v := .pointer (some ⟨B, 0, none⟩)) rfl (by kernel_rfl) (by kernel_rfl) (by kernel_rfl) (fun _ => hb) rfl (fun w hw => ?_) ?_
          · simp [execOp, go_sem] <;> (intros; omega)
          simp only [Act.put, List.setIfInBounds_toArray, List.set_cons_succ, List.set_cons_zero]
          refine still_pure 9 (v := .int .i64 k) rfl (by kernel_rfl) (by kernel_rfl) (by kernel_rfl) (fun _ => hb) rfl (fun w hw => ?_) ?_
          · replace hw := hw (by decide)
            have hq0 := hw.cell 0
            (try simp at hq0)
            simp [execOp, go_sem, hq0]
          simp only [Act.put, List.setIfInBounds_toArray, List.set_cons_succ, List.set_cons_zero]
          refine still_pure 10 (v := .string (t.extract 0 k)) rfl (by kernel_rfl) (by kernel_rfl) (by kernel_rfl) (fun _ => hb) rfl (fun w hw => ?_) ?_
          · simp [execOp, go_sem] <;> (intros; omega)
          simp only [Act.put, List.setIfInBounds_toArray, List.set_cons_succ, List.set_cons_zero]
          refine still_pick [11] (by kernel_rfl) (by decide) ?_
          intro i hi
          obtain rfl : i = 11 := by simpa using hi
          refine still_one (by first | (simp only [List.getElem?_toArray, List.getElem?_cons_succ, List.getElem?_cons_zero]; rfl) | rfl) (fun R hR => ?_)
          (try simp only [List.getElem_toArray, List.getElem_cons_succ, List.getElem_cons_zero])
          go_wp2_with fail
          refine only_normal (hR _ _ (Keep.step (fun _ => hb.gr (((Gr.refl wr).alloc _).drew))) ?_)
          clear hR R
          simp only [Act.put, List.setIfInBounds_toArray, List.set_cons_succ, List.set_cons_zero]
          refine still_pick [12] (by kernel_rfl) (by decide) ?_
          intro i hi
          obtain rfl : i = 12 := by simpa using hi
          refine still_one (by first | (simp only [List.getElem?_toArray, List.getElem?_cons_succ, List.getElem?_cons_zero]; rfl) | rfl) (fun R hR => ?_)
          (try simp only [List.getElem_toArray, List.getElem_cons_succ, List.getElem_cons_zero])
          go_wp2_with (at_builtin; refine wpList_append_rd rfl (.tmp 46) (.tmp 53) 44 rfl (B + 1) 9 is (.string ByteArray.empty) 1 16 (by kernel_rfl) his hs0 hs1 hs2 rfl (by decide) (.slice al ls'.length cl) ls'.length (ls'.map Value.string) rfl (own_gr ((Gr.refl wr).alloc _).drew hL1) _ 1 [.string (t.extract 0 k)] rfl (Rd.gr (Gr.refl _).drew (Rd.new wr #[.string (t.extract 0 k)] 9 1 1 1 rfl)) ?_ ?_ ?_ ?_ ?_; (· intro u hu; simp at hu; subst hu; rfl); (· unfold maxLen; omega); (· omega); (· have := hb.lt; simp; omega); intro lv2 w2 hown2 hgrow2)
          have hga : Gr wr (wr.alloc (.cells #[.string (t.extract 0 k)] 9)).drew := ((Gr.refl wr).alloc _).drew
          have hB2 := (hb.gr hga).grown hgrow2 hlB
          have hF2 := World.ownsRowF.kept (World.ownsRowF.kept hw'.out.own hga.by0 (Classical.em _)) hgrow2 (by
            rcases hr1.out with h | h
            · rw [h]; exact Classical.em (bv'.ownBlock = none)
            · exact .inr (fun e => h e.symm))
          have hy2 : By (fun j => B ≤ j) w w2 := (hy'.trans (S' := fun j => B ≤ j) (By.of_gr hga) (fun _ _ h => h)).trans (S' := fun j => B ≤ j) (By.of_grown hgrow2 (own_isRow (own_gr hga hL1)) (fun k hk => by have := hlge k hk; omega)) (fun _ _ h => h)
          obtain ⟨a2, c2, rfl⟩ := own_shape hown2
          clear hgrow2
          refine only_normal (hR _ _ (Keep.step (fun _ => hB2)) ?_)
          clear hR R
          simp only [Act.put, List.setIfInBounds_toArray, List.set_cons_succ, List.set_cons_zero]
          have d1 := hB2.cell 1
          have f1 := hB2.frozen 1
          simp at d1
          refine still_pick [13] (by kernel_rfl) (by decide) ?_
          intro i hi
          obtain rfl : i = 13 := by simpa using hi
          refine still_one (by first | (simp only [List.getElem?_toArray, List.getElem?_cons_succ, List.getElem?_cons_zero]; rfl) | rfl) (fun R hR => ?_)
          (try simp only [List.getElem_toArray, List.getElem_cons_succ, List.getElem_cons_zero])
          go_wp2_with fail
          refine only_normal (hR _ _ (Keep.step (fun h => h)) ?_)
          clear hR R
          simp only [Act.put, List.setIfInBounds_toArray, List.set_cons_succ, List.set_cons_zero]
          refine still_pick [14] (by kernel_rfl) (by decide) ?_
          intro i hi
          obtain rfl : i = 14 := by simpa using hi
          refine still_one (by first | (simp only [List.getElem?_toArray, List.getElem?_cons_succ, List.getElem?_cons_zero]; rfl) | rfl) (fun R hR => ?_)
          (try simp only [List.getElem_toArray, List.getElem_cons_succ, List.getElem_cons_zero])
          go_wp2_with fail
          refine only_normal (hR _ _ (Keep.step (fun h => h)) ?_)
          clear hR R
          simp only [Act.put, List.setIfInBounds_toArray, List.set_cons_succ, List.set_cons_zero]
          refine still_pick [15] (by kernel_rfl) (by decide) ?_
          intro i hi
          obtain rfl : i = 15 := by simpa using hi
          refine still_one (by first | (simp only [List.getElem?_toArray, List.getElem?_cons_succ, List.getElem?_cons_zero]; rfl) | rfl) (fun R hR => ?_)
          (try simp only [List.getElem_toArray, List.getElem_cons_succ, List.getElem_cons_zero])
          go_wp2_with fail
          refine only_normal (hR _ _ (Keep.last (by kernel_rfl)) ?_)
          clear hR R
          simp only [Act.put, List.setIfInBounds_toArray, List.set_cons_succ, List.set_cons_zero]
          refine still_done (by kernel_rfl) ?_
          have hge2 := own_ge hown2
          have hlB2 := hB2.row hown2 (by decide)
          have hB3 := hB2.set 1 (.slice a2 (ls'.length + 1) c2)
          have hF3 := World.ownsRowF.kept hF2 (grown_setCell w2 ⟨B, 1, none⟩ (.slice a2 (ls'.length + 1) c2)) (.inr hbB)
          have hL3 := World.ownsRow.kept hown2 (grown_setCell w2 ⟨B, 1, none⟩ (.slice a2 (ls'.length + 1) c2)) (.inr hlB2)
          have hy3 := hy2.trans (S' := fun j => B ≤ j) ((By.of_set w2 ⟨B, 1, none⟩ (.slice a2 (ls'.length + 1) c2)).mono (fun k _ hk => by rw [hk]; exact Nat.le_refl B)) (fun _ _ h => h)
          have hL4 : StrsO (B + 1) 9 (w2.setCell ⟨B, 1, none⟩ (.slice a2 (ls'.length + 1) c2)) (.slice a2 (ls'.length + 1) c2) (ls' ++ [t.extract 0 k]) := by
            unfold StrsO
            rw [List.length_append, List.map_append]
            exact hL3
          have d0 : w2.cell? ⟨B, 0, none⟩ = some (.int .i64 k) := by have := hB2.cell 0; simpa using this
          have hz1 : (t.extract k t.size).size = t.size - k := by rw [← ba_len, ba_dropE, List.length_drop, ba_len]
          have hch2 : Hid (∃ f, (t.extract k t.size).size ≤ f ∧ (ls' ++ [t.extract 0 k]) ++ (chop k f (t.extract k t.size).data.toList).1 = R1 ∧ (chop k f (t.extract k t.size).data.toList).2 = R2) := by
            obtain ⟨f, h1, h2, h3⟩ := hch.out
            obtain ⟨f, rfl⟩ : ∃ f', f = f' + 1 := ⟨f - 1, by omega⟩
            rw [chop_step _ _ _ (by rw [ba_len]; exact g)] at h2 h3
            refine ⟨f, by rw [hz1]; omega, ?_, ?_⟩
            · rw [ba_dropE, List.append_assoc, ba_take]
              exact h2
            · rw [ba_dropE]
              exact h3
          clear hown2 hL3 hF2 hB2 d1 f1 hL1 hb hch
          go_wp2
          exact ⟨⟨_, _, p', bv', _, rfl, ⟨hB3, hL4, hw'.out.self, hF3⟩, hy3, by simp only [List.length_append, List.length_singleton, hz1]; omega, hch2⟩, by show (t.extract k t.size).size < t.size; omega⟩
        · have g1 : decide ((k : Int) < t.size) = false := decide_eq_false (by omega)
          have HW : Hid (∀ (t : ByteArray) w, Wr w B k lv' p' bv' ls' [] → t.size ≤ 140737488355328 → Calls Tryz.prog 40 #[.pointer (some ⟨B, 2, none⟩), .string t] w fun e w' => ∃ p' bv', e = .returned (.tuple #[.int .i64 t.size, .nilIface]) ∧ Wr w' B k lv' p' bv' ls' ([] ++ t.data.toList) ∧ By (fun j => B ≤ j) w w') := fun t w h1 h2 => Wr.write B k lv' p' bv' ls' [] t w h1 (by simp; omega)
          go_wp2_with (go_at_call 40; (with_reducible refine (HW.out t _ hw'.out ?_).mono ?_); (· omega); rintro e w3 ⟨p3, b3, rfl, hw3, hy3⟩)
          go_end0
          obtain ⟨f, h1, h2, h3⟩ := hch.out
          rw [chop_done _ _ _ (by rw [ba_len]; exact g)] at h2 h3
          simp only [List.append_nil] at h2
          rw [List.nil_append] at hw3
          subst h2
          subst h3
          exact ⟨lv', p3, b3, rfl, hw3, hy'.trans (S' := fun j => B ≤ j) hy3 (fun _ _ h => h)⟩
    · have q1 : decide (0 < cur.length) = true := decide_eq_true (by have : cur.length ≠ 0 := fun e => hq1 (List.eq_nil_of_length_eq_zero e); omega); have q2 : decide ((cur.length : Int) + 1 + s.size ≤ k) = false := decide_eq_false (by omega)
      go_enter Tryz.func44, Tryz.ntmps44
      go_wp2
      refine wp_region_gr (by kernel_rfl) (by kernel_rfl) (fun hq1 hq2 => ?_)
      repeat (first | go_big_quiet_skip | (go_big_quiet_want; go_big_quiet_op; first | go_big_quiet_on | (apply Exists.intro; refine ⟨fun _ => ?_, ?_⟩; (· ((go_at_call 72; exact gr_call_same (HL.out _ (GW.h _))))); go_big_quiet_on)))
      refine wpQuiet_nil ?_
      clear hq1 hq2
      rintro w1 ⟨⟨_, hg1⟩, rfl⟩
      obtain ⟨hc1, hf1⟩ := hg1.cells
      have hz1 := hg1.size
      (try simp at hz1); (try have hl1_0_0 : w.heap.size < w1.heap.size := by omega); (try have hm1_0_0 : w.heap.size ≤ w1.heap.size := by omega); (try have hl1_0_1 : w.heap.size + 1 < w1.heap.size := by omega); (try have hl1_0_2 : w.heap.size + 2 < w1.heap.size := by omega)
      have hw1 := h.out.gr hg1
      have hy1 : By (fun j => B ≤ j) w w1 := By.of_gr hg1
      clear hg1 hc1 hf1
      go_wp2_with (go_at_call 45; (with_reducible refine (HE.out _ hw1).mono ?_); rintro e w2 ⟨lv2, p2, b2, rfl, hw2, hy2⟩)
      go_loopw [1] (fun v wr => ∃ (t : ByteArray) (lv' p' bv' : Value) (ls' : List ByteArray), v = .string t ∧ Wr wr B k lv' p' bv' ls' [] ∧ By (fun j => B ≤ j) w wr ∧ ls'.length + t.size ≤ 3999995 ∧ Hid (∃ f, t.size ≤ f ∧ ls' ++ (chop k f t.data.toList).1 = R1 ∧ (chop k f t.data.toList).2 = R2)) (fun v _ => strLen v)
      case atStart => exact ⟨s, lv2, p2, b2, _, rfl, hw2, hy1.trans (S' := fun j => B ≤ j) hy2 (fun _ _ h => h), by omega, hRR⟩
      case round =>
        obtain ⟨t, lv', p', bv', ls', rfl, hw', hy', hln, hch⟩ := hrel
        clear hw1 hy1 hw2 hy2 HL HE hb0
        have hb0 := hw'.blk.cell 0
        simp at hb0
        have hw' := Lib.hid hw'
        by_cases g : k < t.size
        · have g1 : decide ((k : Int) < t.size) = true := decide_eq_true (by omega)
          go_wp2
          obtain ⟨al, cl, rfl⟩ := own_shape hw'.out.lines
          have hlB := hw'.out.blk.row hw'.out.lines (by decide)
          have hlge := own_ge hw'.out.lines
          have hr1 := rows_ne hw'.out.lines hw'.out.own (by decide)
          have hbB := hw'.out.blk.rowF hw'.out.own (by decide)
          have hr1 := Lib.hid hr1
          have hb := hw'.out.blk
          have hL1 := hw'.out.lines
          refine wp_region_still (Keep 11 (fun x => Blk x B 104 [.int .i64 k, .slice al ls'.length cl, p', bv'])) 16 rfl (by kernel_rfl) ?_
          show stillAny _ _ _ _ _ _ #[false, false, false, false, false, false, false, false, false, false, false, false, false, false, false, false] _ _
          refine still_pure 0 (v := .pointer (some ⟨B, 0, none⟩)) rfl (by kernel_rfl) (by kernel_rfl) (by kernel_rfl) (fun _ => hb) rfl (fun w hw => ?_) ?_
          · simp [execOp, go_sem] <;> (intros; omega)
          simp only [Act.put, List.setIfInBounds_toArray, List.set_cons_succ, List.set_cons_zero]
          refine still_pure 1 (v := .pointer (some ⟨B, 0, none⟩)) rfl (by kernel_rfl) (by kernel_rfl) (by kernel_rfl) (fun _ => hb) rfl (fun w hw => ?_) ?_
          · simp [execOp, go_sem] <;> (intros; omega)
          simp only [Act.put, List.setIfInBounds_toArray, List.set_cons_succ, List.set_cons_zero]
          refine still_pure 2 (v := .pointer (some ⟨B, 0, none⟩)) rfl (by kernel_rfl) (by kernel_rfl) (by kernel_rfl) (fun _ => hb) rfl (fun w hw => ?_) ?_
          · simp [execOp, go_sem] <;> (intros; omega)
          simp only [Act.put, List.setIfInBounds_toArray, List.set_cons_succ, List.set_cons_zero]
          refine still_pure 3 (v := .pointer (some ⟨B, 1, none⟩)) rfl (by kernel_rfl) (by kernel_rfl) (by kernel_rfl) (fun _ => hb) rfl (fun w hw => ?_) ?_
          · simp [execOp, go_sem] <;> (intros; omega)
          simp only [Act.put, List.setIfInBounds_toArray, List.set_cons_succ, List.set_cons_zero]
          refine still_pure 4 (v := .slice al ls'.length cl) rfl (by kernel_rfl) (by kernel_rfl) (by kernel_rfl) (fun _ => hb) rfl (fun w hw => ?_) ?_
          · replace hw := hw (by decide)
            have hq0 := hw.cell 1
            (try simp at hq0)
            simp [execOp, go_sem, hq0]
          simp only [Act.put, List.setIfInBounds_toArray, List.set_cons_succ, List.set_cons_zero]
          refine still_pure 5 (v := .string t) rfl (by kernel_rfl) (by kernel_rfl) (by kernel_rfl) (fun _ => hb) rfl (fun w hw => ?_) ?_
          · simp [execOp, go_sem] <;> (intros; omega)
          simp only [Act.put, List.setIfInBounds_toArray, List.set_cons_succ, List.set_cons_zero]
          refine still_pure 6 (v := .pointer (some ⟨B, 0, none⟩)) rfl (by kernel_rfl) (by kernel_rfl) (by kernel_rfl) (fun _ => hb) rfl (fun w hw => ?_) ?_
          · simp [execOp, go_sem] <;> (intros; omega)
          simp only [Act.put, List.setIfInBounds_toArray, List.set_cons_succ, List.set_cons_zero]
          refine still_pure 7 (v := .pointer (some ⟨B, 0, none⟩)) rfl (by kernel_rfl) (by kernel_rfl) (by kernel_rfl) (fun _ => hb) rfl (fun w hw => ?_) ?_
          · simp [execOp, go_sem] <;> (intros; omega)
          simp only [Act.put, List.setIfInBounds_toArray, List.set_cons_succ, List.set_cons_zero]
          refine still_pure 8 (v := .pointer (some ⟨B, 0, none⟩)) rfl (by kernel_rfl) (by kernel_rfl) (by kernel_rfl) (fun _ => hb) rfl (fun w hw => ?_) ?_
          · simp [execOp, go_sem] <;> (intros; omega)
          simp only [Act.put, List.setIfInBounds_toArray, List.set_cons_succ, List.set_cons_zero]
          refine still_pure 9 (v := .int .i64 k) rfl (by kernel_rfl) (by kernel_rfl) (by kernel_rfl) (fun _ => hb) rfl (fun w hw => ?_) ?_
          · replace hw := hw (by decide)
            have hq0 := hw.cell 0
            (try simp at hq0)
            simp [execOp, go_sem, hq0]
          simp only [Act.put, List.setIfInBounds_toArray, List.set_cons_succ, List.set_cons_zero]
          refine still_pure 10 (v := .string (t.extract 0 k)) rfl (by kernel_rfl) (by kernel_rfl) (by kernel_rfl) (fun _ => hb) rfl (fun w hw => ?_) ?_
          · simp [execOp, go_sem] <;> (intros; omega)
          simp only [Act.put, List.setIfInBounds_toArray, List.set_cons_succ, List.set_cons_zero]
          refine still_pick [11] (by kernel_rfl) (by decide) ?_
          intro i hi
          obtain rfl : i = 11 := by simpa using hi
          refine still_one (by first | (simp only [List.getElem?_toArray, List.getElem?_cons_succ, List.getElem?_cons_zero]; rfl) | rfl) (fun R hR => ?_)
          (try simp only [List.getElem_toArray, List.getElem_cons_succ, List.getElem_cons_zero])
          go_wp2_with fail
          refine only_normal (hR _ _ (Keep.step (fun _ => hb.gr (((Gr.refl wr).alloc _).drew))) ?_)
          clear hR R
          simp only [Act.put, List.setIfInBounds_toArray, List.set_cons_succ, List.set_cons_zero]
          refine still_pick [12] (by kernel_rfl) (by decide) ?_
          intro i hi
          obtain rfl : i = 12 := by simpa using hi
          refine still_one (by first | (simp only [List.getElem?_toArray, List.getElem?_cons_succ, List.getElem?_cons_zero]; rfl) | rfl) (fun R hR => ?_)
          (try simp only [List.getElem_toArray, List.getElem_cons_succ, List.getElem_cons_zero])
          go_wp2_with (at_builtin; refine wpList_append_rd rfl (.tmp 46) (.tmp 53) 44 rfl (B + 1) 9 is (.string ByteArray.empty) 1 16 (by kernel_rfl) his hs0 hs1 hs2 rfl (by decide) (.slice al ls'.length cl) ls'.length (ls'.map Value.string) rfl (own_gr ((Gr.refl wr).alloc _).drew hL1) _ 1 [.string (t.extract 0 k)] rfl (Rd.gr (Gr.refl _).drew (Rd.new wr #[.string (t.extract 0 k)] 9 1 1 1 rfl)) ?_ ?_ ?_ ?_ ?_; (· intro u hu; simp at hu; subst hu; rfl); (· unfold maxLen; omega); (· omega); (· have := hb.lt; simp; omega); intro lv2 w2 hown2 hgrow2)
          have hga : Gr wr (wr.alloc (.cells #[.string (t.extract 0 k)] 9)).drew := ((Gr.refl wr).alloc _).drew
          have hB2 := (hb.gr hga).grown hgrow2 hlB
          have hF2 := World.ownsRowF.kept (World.ownsRowF.kept hw'.out.own hga.by0 (Classical.em _)) hgrow2 (by
            rcases hr1.out with h | h
            · rw [h]; exact Classical.em (bv'.ownBlock = none)
            · exact .inr (fun e => h e.symm))
          have hy2 : By (fun j => B ≤ j) w w2 := (hy'.trans (S' := fun j => B ≤ j) (By.of_gr hga) (fun _ _ h => h)).trans (S' := fun j => B ≤ j) (By.of_grown hgrow2 (own_isRow (own_gr hga hL1)) (fun k hk => by have := hlge k hk; omega)) (fun _ _ h => h)
          obtain ⟨a2, c2, rfl⟩ := own_shape hown2
          clear hgrow2
          refine only_normal (hR _ _ (Keep.step (fun _ => hB2)) ?_)
          clear hR R
          simp only [Act.put, List.setIfInBounds_toArray, List.set_cons_succ, List.set_cons_zero]
          have d1 := hB2.cell 1
          have f1 := hB2.frozen 1
          simp at d1
          refine still_pick [13] (by kernel_rfl) (by decide) ?_
          intro i hi
          obtain rfl : i = 13 := by simpa using hi
          refine still_one (by first | (simp only [List.getElem?_toArray, List.getElem?_cons_succ, List.getElem?_cons_zero]; rfl) | rfl) (fun R hR => ?_)
          (try simp only [List.getElem_toArray, List.getElem_cons_succ, List.getElem_cons_zero])
          go_wp2_with fail
          refine only_normal (hR _ _ (Keep.step (fun h => h)) ?_)
          clear hR R
          simp only [Act.put, List.setIfInBounds_toArray, List.set_cons_succ, List.set_cons_zero]
          refine still_pick [14] (by kernel_rfl) (by decide) ?_
          intro i hi
          obtain rfl : i = 14 := by simpa using hi
          refine still_one (by first | (simp only [List.getElem?_toArray, List.getElem?_cons_succ, List.getElem?_cons_zero]; rfl) | rfl) (fun R hR => ?_)
          (try simp only [List.getElem_toArray, List.getElem_cons_succ, List.getElem_cons_zero])
          go_wp2_with fail
          refine only_normal (hR _ _ (Keep.step (fun h => h)) ?_)
          clear hR R
          simp only [Act.put, List.setIfInBounds_toArray, List.set_cons_succ, List.set_cons_zero]
          refine still_pick [15] (by kernel_rfl) (by decide) ?_
          intro i hi
          obtain rfl : i = 15 := by simpa using hi
          refine still_one (by first | (simp only [List.getElem?_toArray, List.getElem?_cons_succ, List.getElem?_cons_zero]; rfl) | rfl) (fun R hR => ?_)
          (try simp only [List.getElem_toArray, List.getElem_cons_succ, List.getElem_cons_zero])
          go_wp2_with fail
          refine only_normal (hR _ _ (Keep.last (by kernel_rfl)) ?_)
          clear hR R
          simp only [Act.put, List.setIfInBounds_toArray, List.set_cons_succ, List.set_cons_zero]
          refine still_done (by kernel_rfl) ?_
          have hge2 := own_ge hown2
          have hlB2 := hB2.row hown2 (by decide)
          have hB3 := hB2.set 1 (.slice a2 (ls'.length + 1) c2)
          have hF3 := World.ownsRowF.kept hF2 (grown_setCell w2 ⟨B, 1, none⟩ (.slice a2 (ls'.length + 1) c2)) (.inr hbB)
          have hL3 := World.ownsRow.kept hown2 (grown_setCell w2 ⟨B, 1, none⟩ (.slice a2 (ls'.length + 1) c2)) (.inr hlB2)
          have hy3 := hy2.trans (S' := fun j => B ≤ j) ((By.of_set w2 ⟨B, 1, none⟩ (.slice a2 (ls'.length + 1) c2)).mono (fun k _ hk => by rw [hk]; exact Nat.le_refl B)) (fun _ _ h => h)
          have hL4 : StrsO (B + 1) 9 (w2.setCell ⟨B, 1, none⟩ (.slice a2 (ls'.length + 1) c2)) (.slice a2 (ls'.length + 1) c2) (ls' ++ [t.extract 0 k]) := by
            unfold StrsO
            rw [List.length_append, List.map_append]
            exact hL3
          have d0 : w2.cell? ⟨B, 0, none⟩ = some (.int .i64 k) := by have := hB2.cell 0; simpa using this
          have hz1 : (t.extract k t.size).size = t.size - k := by rw [← ba_len, ba_dropE, List.length_drop, ba_len]
          have hch2 : Hid (∃ f, (t.extract k t.size).size ≤ f ∧ (ls' ++ [t.extract 0 k]) ++ (chop k f (t.extract k t.size).data.toList).1 = R1 ∧ (chop k f (t.extract k t.size).data.toList).2 = R2) := by
            obtain ⟨f, h1, h2, h3⟩ := hch.out
            obtain ⟨f, rfl⟩ : ∃ f', f = f' + 1 := ⟨f - 1, by omega⟩
            rw [chop_step _ _ _ (by rw [ba_len]; exact g)] at h2 h3
            refine ⟨f, by rw [hz1]; omega, ?_, ?_⟩
            · rw [ba_dropE, List.append_assoc, ba_take]
              exact h2
            · rw [ba_dropE]
              exact h3
          clear hown2 hL3 hF2 hB2 d1 f1 hL1 hb hch
          go_wp2
          exact ⟨⟨_, _, p', bv', _, rfl, ⟨hB3, hL4, hw'.out.self, hF3⟩, hy3, by simp only [List.length_append, List.length_singleton, hz1]; omega, hch2⟩, by show (t.extract k t.size).size < t.size; omega⟩
        · have g1 : decide ((k : Int) < t.size) = false := decide_eq_false (by omega)
          have HW : Hid (∀ (t : ByteArray) w, Wr w B k lv' p' bv' ls' [] → t.size ≤ 140737488355328 → Calls Tryz.prog 40 #[.pointer (some ⟨B, 2, none⟩), .string t] w fun e w' => ∃ p' bv', e = .returned (.tuple #[.int .i64 t.size, .nilIface]) ∧ Wr w' B k lv' p' bv' ls' ([] ++ t.data.toList) ∧ By (fun j => B ≤ j) w w') := fun t w h1 h2 => Wr.write B k lv' p' bv' ls' [] t w h1 (by simp; omega)
          go_wp2_with (go_at_call 40; (with_reducible refine (HW.out t _ hw'.out ?_).mono ?_); (· omega); rintro e w3 ⟨p3, b3, rfl, hw3, hy3⟩)
          go_end0
          obtain ⟨f, h1, h2, h3⟩ := hch.out
          rw [chop_done _ _ _ (by rw [ba_len]; exact g)] at h2 h3
          simp only [List.append_nil] at h2
          rw [List.nil_append] at hw3
          subst h2
          subst h3
          exact ⟨lv', p3, b3, rfl, hw3, hy'.trans (S' := fun j => B ≤ j) hy3 (fun _ _ h => h)⟩
end Go.Proofs.YthadhmhbbfjomaaGreatDoor
