
import Derived.Test.YthadhmhbbfjomaaGreatDoorWalkCu
import Derived.Test.YthadhmhbbfjomaaGreatDoorKit
/-
  Contracts of the tape of choices: Next; a caption; lists of captions.
  Conditions: the tape's numbers lie in memory.
-/
namespace Go.Proofs.YthadhmhbbfjomaaGreatDoor
open Go.RowKit Go.Lib
set_option linter.unusedSimpArgs false
set_option linter.unusedVariables false

/-- block T holds a tape with the numbers xs, at place k -/
structure Tape (W : World) (T : Nat) (a : Option Addr) (cap : Nat) (xs : List Int) (k : Nat) : Prop where
  cel : Cel W T [.slice a xs.length cap, .int .i64 k]
  rd : Rd W (.slice a xs.length cap) xs.length 1 (xs.map (Value.int .i64))
  ne : xs.length = 0 ∨ (Value.slice a xs.length cap).ownBlock ≠ some T
  ok : ∀ x ∈ xs, -9223372036854775808 ≤ x ∧ x ≤ 9223372036854775807
  n : xs.length ≤ 140737488355328
theorem Tape.grown {W w : World} {T : Nat} {a : Option Addr} {cap : Nat} {xs : List Int} {k : Nat} {row : Option Nat} (hg : W.grownBy w row) (h1 : row ≠ some T) (h2 : row = none ∨ (Value.slice a xs.length cap).ownBlock ≠ row) (h : Tape W T a cap xs k) : Tape w T a cap xs k :=
  ⟨h.cel.grown hg h1, h.rd.grown hg (by rcases h2 with h2 | h2; exact .inr (.inr (.inl h2)); exact .inr (.inl h2)), h.ne, h.ok, h.n⟩
theorem Tape.gr {W w : World} {T : Nat} {a : Option Addr} {cap : Nat} {xs : List Int} {k : Nat} (hg : Gr W w) (h : Tape W T a cap xs k) : Tape w T a cap xs k := h.grown hg.by0 (fun h => by cases h) (.inl rfl)

theorem tape_mod (v n : Int) (h1 : 1 ≤ n) (h2 : n ≤ 2147483647) : 0 ≤ (wrap64 (v.tmod n + n)).tmod n ∧ (wrap64 (v.tmod n + n)).tmod n < n := by
  have a1 := Int.lt_tmod_of_pos v (show 0 < n by omega)
  have a2 := Int.tmod_lt_of_pos v (show 0 < n by omega)
  have : wrap64 (v.tmod n + n) = v.tmod n + n := by unfold wrap64; omega
  rw [this]
  exact ⟨Int.tmod_nonneg _ (by omega), Int.tmod_lt_of_pos _ (by omega)⟩
theorem Tape.step {W w : World} {T : Nat} {a : Option Addr} {cap : Nat} {xs : List Int} {k : Nat} (hg : Gr W w) (h : Tape W T a cap xs k) :
    W.grownBy (w.setCell ⟨T, 1, none⟩ (.int .i64 (k + 1))) (some T) ∧ Tape (w.setCell ⟨T, 1, none⟩ (.int .i64 (k + 1))) T a cap xs (k + 1) := by
  have h2 := h.gr hg
  refine ⟨⟨hg.os, hg.tape, hg.output, by simp [World.setCell]; exact hg.size, fun j hj hne => ?_⟩, ⟨(h2.cel.set (k := 1) (by simp) (.int .i64 (k + 1))), h2.rd.grown (grown_setCell w _ _) (h2.ne.elim .inl (fun h => .inr (.inl h))), h2.ne, h2.ok, h2.n⟩⟩
  rw [Below.heap_setCell _ _ _ j (fun e => hne (by rw [e]))]
  exact hg.block j hj

/-- the numbers that a tape is made of -/
structure TapeArg (w : World) (a : Option Addr) (cap : Nat) (xs : List Int) : Prop where
  rd : Rd w (.slice a xs.length cap) xs.length 1 (xs.map (Value.int .i64))
  ok : ∀ x ∈ xs, -9223372036854775808 ≤ x ∧ x ≤ 9223372036854775807
  n : xs.length ≤ 140737488355328
theorem TapeArg.gr {w w' : World} {a : Option Addr} {cap : Nat} {xs : List Int} (hg : Gr w w') (h : TapeArg w a cap xs) : TapeArg w' a cap xs := ⟨h.rd.gr hg, h.ok, h.n⟩
theorem TapeArg.box {w : World} {a : Option Addr} {cap : Nat} {xs : List Int} (h : TapeArg w a cap xs) (t : TypeId) : Tape (w.alloc (.cells #[.slice a xs.length cap, .int .i64 0] t)) w.heap.size a cap xs 0 := by
  refine ⟨Cel.new w #[.slice a xs.length cap, .int .i64 0] t, h.rd.gr ((Gr.refl w).alloc _), ?_, h.ok, h.n⟩
  obtain ⟨_, a', cap', e, h2 | ⟨b, o, rfl, hb, _⟩⟩ := h.rd
  · exact .inl h2.1
  · injection e with e1 e2 e3
    subst e1
    refine .inr (fun h => ?_)
    have : b = w.heap.size := by simpa [Value.ownBlock] using h
    omega

set_option maxHeartbeats 2000000 in
theorem next_any (T : Nat) (a : Option Addr) (cap : Nat) (xs : List Int) (k : Nat) (n : Int) (w : World) (hT : Tape w T a cap xs k) (hk : k ≤ 1000000) (h1 : 1 ≤ n) (h2 : n ≤ 2147483647) :
    Calls Tryz.prog 11 #[.pointer (some ⟨T, 0, none⟩), .int .i64 n] w fun e w' => ∃ r : Int, e = .returned (.int .i64 r) ∧ 0 ≤ r ∧ r < n ∧ w.grownBy w' (some T) ∧ Tape w' T a cap xs (k + 1) := by
  have hT' := Lib.hid hT
  obtain ⟨hx, c0, c1, f0, f1⟩ := hT.cel.two
  have hn := hT.n
  have hrd := hT.rd
  have hok := Lib.hid hT.ok
  clear hT
  have q0 : decide (n < 1) = false := decide_eq_false (by omega)
  by_cases g : k < xs.length
  · have q1 : decide (k < xs.length) = true := decide_eq_true g
    obtain ⟨b, o, cap', e1, hb, hc⟩ := hrd.addr (by omega)
    injection e1 with e1 e2 e3
    subst e1
    subst e3
    have hc := hc k (.int .i64 xs[k]) (by simp [g])
    have hxk := hok.out _ (List.getElem_mem g)
    generalize xs[k] = v at hc hxk
    clear hrd
    go_enter Tryz.func11, Tryz.ntmps11
    go_wp2
    refine wp_region_gr (by kernel_rfl) (by kernel_rfl) (fun hq1 hq2 => ?_)
    repeat (first | go_big_quiet_skip | (go_big_quiet_want; go_big_quiet_op; first | go_big_quiet_on | (apply Exists.intro; refine ⟨fun _ => ?_, ?_⟩; (· (fail)); go_big_quiet_on)))
    refine wpQuiet_nil ?_
    clear hq1 hq2
    rintro w1 ⟨⟨_, hg1⟩, rfl⟩
    obtain ⟨hc1, hf1⟩ := hg1.cells
    have hz1 := hg1.size
    (try simp at hz1); (try have hl1_0_0 : w.heap.size < w1.heap.size := by omega); (try have hm1_0_0 : w.heap.size ≤ w1.heap.size := by omega); (try have hl1_0_1 : w.heap.size + 1 < w1.heap.size := by omega); (try have hl1_0_2 : w.heap.size + 2 < w1.heap.size := by omega)
    go_wp2
    have d0 := (hc1 T _ hx).trans c0
    have d1 := (hc1 T _ hx).trans c1
    have dc := (hc1 b _ hb).trans hc
    have hx1 : T < w1.heap.size := Nat.lt_of_lt_of_le hx hg1.size
    have hb1 : b < w1.heap.size := Nat.lt_of_lt_of_le hb hg1.size
    clear hc1 hf1
    refine wp_region_gr (by kernel_rfl) (by kernel_rfl) (fun hq1 hq2 => ?_)
    repeat (first | go_big_quiet_skip | (go_big_quiet_want; go_big_quiet_op; first | go_big_quiet_on | (apply Exists.intro; refine ⟨fun _ => ?_, ?_⟩; (· (fail)); go_big_quiet_on)))
    refine wpQuiet_nil ?_
    clear hq1 hq2
    rintro w2 ⟨⟨_, hg2⟩, rfl⟩
    obtain ⟨hc2, hf2⟩ := hg2.cells
    have hz2 := hg2.size
    (try simp at hz2); (try have hl2_0_0 : w.heap.size < w2.heap.size := by omega); (try have hm2_0_0 : w.heap.size ≤ w2.heap.size := by omega); (try have hl2_0_1 : w.heap.size + 1 < w2.heap.size := by omega); (try have hl2_0_2 : w.heap.size + 2 < w2.heap.size := by omega); (try have hl2_1_0 : w1.heap.size < w2.heap.size := by omega); (try have hm2_1_0 : w1.heap.size ≤ w2.heap.size := by omega); (try have hl2_1_1 : w1.heap.size + 1 < w2.heap.size := by omega); (try have hl2_1_2 : w1.heap.size + 2 < w2.heap.size := by omega)
    have k0 := (hc2 T _ hx1).trans d0
    have k1 := (hc2 T _ hx1).trans d1
    have hg12 := hg1.trans hg2
    have kf : w2.frozen? ⟨T, 1, none⟩ = false := ((hg1.trans hg2).cells.2 T _ hx).trans f1
    clear hc2 hf2
    have hb2 := tape_mod v n h1 h2
    go_wp2
    go_ret
    have hs := hT'.out.step hg12
    exact ⟨_, rfl, hb2.1, hb2.2, hs.1, hs.2⟩
  · have q1 : decide (k < xs.length) = false := decide_eq_false (by omega)
    obtain ⟨v, hv⟩ : ∃ v : Int, (k : Int) * 7 + 3 = v := ⟨_, rfl⟩
    clear hrd
    go_enter Tryz.func11, Tryz.ntmps11
    go_wp2
    refine wp_region_gr (by kernel_rfl) (by kernel_rfl) (fun hq1 hq2 => ?_)
    repeat (first | go_big_quiet_skip | (go_big_quiet_want; go_big_quiet_op; first | go_big_quiet_on | (apply Exists.intro; refine ⟨fun _ => ?_, ?_⟩; (· (fail)); go_big_quiet_on)))
    refine wpQuiet_nil ?_
    clear hq1 hq2
    rintro w1 ⟨⟨_, hg1⟩, rfl⟩
    obtain ⟨hc1, hf1⟩ := hg1.cells
    have hz1 := hg1.size
    (try simp at hz1); (try have hl1_0_0 : w.heap.size < w1.heap.size := by omega); (try have hm1_0_0 : w.heap.size ≤ w1.heap.size := by omega); (try have hl1_0_1 : w.heap.size + 1 < w1.heap.size := by omega); (try have hl1_0_2 : w.heap.size + 2 < w1.heap.size := by omega)
    have d0 := (hc1 T _ hx).trans c0
    have d1 := (hc1 T _ hx).trans c1
    have kf : w1.frozen? ⟨T, 1, none⟩ = false := (hg1.cells.2 T _ hx).trans f1
    have hx1 : T < w1.heap.size := Nat.lt_of_lt_of_le hx hg1.size
    clear hc1 hf1
    have hb2 := tape_mod v n h1 h2
    have ev : v.tmod n = v % n := Int.tmod_eq_emod_of_nonneg (by omega)
    rw [ev] at hb2
    go_wp2
    go_ret
    have hs := hT'.out.step hg1
    exact ⟨_, rfl, hb2.1, hb2.2, hs.1, hs.2⟩
end Go.Proofs.YthadhmhbbfjomaaGreatDoor

/-
  Contract of the tape's caption.
  Conditions: the tape's numbers lie in memory.
-/
namespace Go.Proofs.YthadhmhbbfjomaaGreatDoor
open Go.RowKit Go.Lib
set_option linter.unusedSimpArgs false
set_option linter.unusedVariables false

/-- what W has stands in w, but for block T -/
def ByT (W : World) (T : Nat) (w : World) : Prop := W.grownBy w (some T)
theorem ByT.refl (W : World) (T : Nat) : ByT W T W := grownBy_refl _ _
theorem ByT.step {W w w' : World} {T : Nat} {row : Option Nat} (h : ByT W T w) (hg : w.grownBy w' row) (hr : ∀ k, row = some k → k = T ∨ W.heap.size ≤ k) : ByT W T w' := by
  refine ⟨hg.os.trans h.os, hg.tape.trans h.tape, hg.output.trans h.output, Nat.le_trans h.size hg.size, fun k hk hne => ?_⟩
  rw [hg.block k (Nat.lt_of_lt_of_le hk h.size) (fun e => by
    rcases hr k e.symm with h1 | h1
    · exact hne (by rw [h1])
    · omega)]
  exact h.block k hk hne
theorem ByT.gr {W w w' : World} {T : Nat} (h : ByT W T w) (hg : Gr w w') : ByT W T w' := h.step hg.by0 (fun k hk => by cases hk)
theorem ByT.set {W w : World} {T : Nat} (h : ByT W T w) {p : Addr} (hp : W.heap.size ≤ p.block) (u : Value) : ByT W T (w.setCell p u) :=
  h.step (grown_setCell w p u) (fun k hk => by injection hk with hk; subst hk; exact .inr hp)
theorem ByT.size {W w : World} {T : Nat} (h : ByT W T w) : W.heap.size ≤ w.heap.size := World.grownBy.size h

theorem Tape.later {W0 W w : World} {T : Nat} {a : Option Addr} {cap : Nat} {xs : List Int} {k k0 : Nat} {row : Option Nat} (h0 : Tape W0 T a cap xs k0) (hg : W.grownBy w row) (h1 : row ≠ some T) (hr : ∀ k, row = some k → W0.heap.size ≤ k) (h : Tape W T a cap xs k) : Tape w T a cap xs k := by
  refine ⟨h.cel.grown hg h1, h.rd.grown hg ?_, h.ne, h.ok, h.n⟩
  obtain ⟨_, a', cap', e, h2 | ⟨b, o, rfl, hb, _⟩⟩ := h0.rd
  · exact .inl h2.1
  · injection e with e1 e2 e3
    subst e1
    refine .inr (.inl fun e => ?_)
    have := hr b (by rw [← e]; rfl)
    omega
theorem grown_trans {a b c : World} {row : Option Nat} (h : a.grownBy b row) (g : b.grownBy c row) : a.grownBy c row :=
  ⟨g.os.trans h.os, g.tape.trans h.tape, g.output.trans h.output, Nat.le_trans h.size g.size, fun k hk hne => (g.block k (Nat.lt_of_lt_of_le hk h.size) hne).trans (h.block k hk hne)⟩
theorem grown_three (w : World) (g : Nat) (a b c : Value) : w.grownBy (((w.setCell ⟨g, 0, none⟩ a).setCell ⟨g, 1, none⟩ b).setCell ⟨g, 2, none⟩ c) (some g) :=
  grown_trans (grown_trans (grown_setCell w ⟨g, 0, none⟩ a) (grown_setCell _ ⟨g, 1, none⟩ b)) (grown_setCell _ ⟨g, 2, none⟩ c)
def fourL : List ByteArray := [⟨#[72, 101, 108, 108, 111, 46]⟩, ⟨#[111, 110, 101, 32, 116, 119, 111, 32, 116, 104, 114, 101, 101]⟩, ⟨#[120]⟩, ⟨#[45, 32, 87, 104, 97, 116, 63, 32, 45, 32, 78, 111, 116, 104, 105, 110, 103, 44, 32, 110, 111, 116, 104, 105, 110, 103, 32, 97, 116, 32, 97, 108, 108, 46]⟩]
theorem fourL_ok : ∀ s ∈ fourL, vLine s = true := by decide +kernel

set_option maxRecDepth 20000 in
set_option maxHeartbeats 4000000 in
theorem tcue_any (T : Nat) (a : Option Addr) (cap : Nat) (xs : List Int) (k : Nat) (w : World) (hT : Tape w T a cap xs k) (hk : k ≤ 1000) :
    Calls Tryz.prog 12 #[.pointer (some ⟨T, 0, none⟩)] w fun e w' => ∃ c k', e = .returned (Cu.val c) ∧ ByT w T w' ∧ Tape w' T a cap xs k' ∧ k ≤ k' ∧ k' ≤ k + 5 ∧ StrsR w' c.lv c.ss ∧ vCu c = true ∧ c.f < 50 ∧ c.t ≤ c.f + 20 ∧ (∀ s ∈ c.ss, s ∈ fourL) ∧ (∃ base, w'.ownsRow base 9 1 c.lv c.ss.length (c.ss.map Value.string) ∧ w.heap.size ≤ base) := by
  have hlt := hT.cel.lt
  have HN : Hid (∀ (w' : World) (k' : Nat) (n : Int), Tape w' T a cap xs k' → k' ≤ 1000000 → 1 ≤ n → n ≤ 2147483647 → Calls Tryz.prog 11 #[.pointer (some ⟨T, 0, none⟩), .int .i64 n] w' fun e w'' => ∃ r : Int, e = .returned (.int .i64 r) ∧ 0 ≤ r ∧ r < n ∧ w'.grownBy w'' (some T) ∧ Tape w'' T a cap xs (k' + 1)) := fun w' k' n h1 h2 h3 h4 => next_any T a cap xs k' n w' h1 h2 h3 h4
  have hT := Lib.hid hT
  obtain ⟨is, his, hs0, hs1, hs2⟩ := info_parts infoStr
  go_enter Tryz.func12, Tryz.ntmps12
  go_wp2_with (first
    | (go_at_call 11; (with_reducible refine (HN.out (w.alloc (.cells #[.int .i64 0, .int .i64 0, .slice none 0 0] 57)) k 50 ?_ ?_ ?_ ?_).mono ?_); (· exact hT.out.gr ((Gr.refl w).alloc _)); (· omega); (· omega); (· omega); rintro e w1 ⟨f, rfl, f1, f2, hg1, hT1⟩)
    | (go_at_call 11; (with_reducible refine (HN.out w1 (k + 1) 20 hT1 ?_ ?_ ?_).mono ?_); (· omega); (· omega); (· omega); rintro e w2 ⟨t, rfl, t1, t2, hg2, hT2⟩)
    | (go_at_call 11; (with_reducible refine (HN.out _ (k + 2) 2 (hT2.gr ((Gr.refl w2).alloc _)) ?_ ?_ ?_).mono ?_); (· omega); (· omega); (· omega); rintro e w3 ⟨m, rfl, m1, m2, hg3, hT3⟩))
  have hC3 : Cel w3 w2.heap.size [.int .i64 f, .int .i64 (f + 1 + t), .slice none 0 0] := (Cel.new w2 #[.int .i64 f, .int .i64 (f + 1 + t), .slice none 0 0] 57).grown hg3 (fun h => by injection h with h; have := ByT.size (T := T) hg1; have := ByT.size (T := T) hg2; simp at *; omega)
  have hz1 := World.grownBy.size hg1
  have hz2 := World.grownBy.size hg2
  have hz3 := World.grownBy.size hg3
  simp at hz1 hz3
  have hB3 : Cel w3 w.heap.size [.int .i64 0, .int .i64 0, .slice none 0 0] := (((((Cel.new w #[.int .i64 0, .int .i64 0, .slice none 0 0] 57).grown hg1 (fun h => by injection h with h; omega)).grown hg2 (fun h => by injection h with h; omega)).alloc _).grown hg3 (fun h => by injection h with h; omega))
  have hw3 : ByT w T w3 := (((((ByT.refl w T).gr ((Gr.refl w).alloc _)).step hg1 (fun k h => by injection h with h; exact .inl h.symm)).step hg2 (fun k h => by injection h with h; exact .inl h.symm)).gr ((Gr.refl w2).alloc _)).step hg3 (fun k h => by injection h with h; exact .inl h.symm)
  have hcr : w.heap.size < w2.heap.size ∧ w2.heap.size < w3.heap.size := by omega
  have hct2 : f < f + 1 + t ∧ f + 1 + t ≤ f + 20 := by omega
  clear hT1 hT2 hg1 hg2 hg3 hz1 hz2 hz3 t1 t2
  generalize w2.heap.size = C at *
  generalize f + 1 + t = ct at *
  clear w1 w2
  go_loopw [5] (fun n wr => ∃ (j k' : Nat) (lv : Value) (ss : List ByteArray), n = .int .i64 j ∧ k ≤ k' ∧ k' + j ≤ k + 5 ∧ 1 ≤ ss.length + j ∧ ss.length + j ≤ 2 ∧ ByT w T wr ∧ Tape wr T a cap xs k' ∧ Cel wr C [.int .i64 f, .int .i64 ct, lv] ∧ Cel wr w.heap.size [.int .i64 0, .int .i64 0, .slice none 0 0] ∧ StrsO (C + 1) 9 wr lv ss ∧ Hid (∀ s ∈ ss, s ∈ fourL)) (fun n _ => (RowKit.intOf n).toNat)
  case atStart => exact ⟨(1 + m).toNat, k + 3, .slice none 0 0, [], by rw [Int.toNat_of_nonneg (by omega)], by omega, by omega, by simp; omega, by simp; omega, hw3, hT3, hC3, hB3, StrsO.nil _ _ _, fun s hs => by cases hs⟩
  case round =>
    obtain ⟨j, k', lv, ss, rfl, h1, h2, h3, h4, hB, hTr, hCc, hCb, hO, hss⟩ := hrel
    clear hw3 hT3 hC3 hB3
    obtain ⟨pl, cl, rfl⟩ := own_shape hO
    obtain ⟨cx, c0, c1, c2, cf0, cf1, cf2⟩ := hCc.three
    by_cases g : 0 < j
    · have q1 : decide (0 < (j : Int)) = true := decide_eq_true (by omega)
      go_wp2
      obtain ⟨S, hS⟩ : ∃ S : Nat → World → Prop, Hid ((∀ x, S 1 x ↔ x.cell? ⟨C, 2, none⟩ = some (.slice pl ss.length cl)) ∧ ∀ i x, i ≠ 1 → S i x) := ⟨fun i x => i = 1 → x.cell? ⟨C, 2, none⟩ = some (.slice pl ss.length cl), Lib.hid ⟨fun x => by simp, fun i x h h' => absurd h' h⟩⟩
      refine wp_region_still S 11 rfl (by kernel_rfl) ?_
      show stillAny _ _ _ _ _ _ #[false, false, false, false, false, false, false, false, false, false, false] _ _
      refine still_pure 0 (v := .pointer (some ⟨C, 2, none⟩)) rfl (by kernel_rfl) (by kernel_rfl) (by kernel_rfl) (hS.out.2 _ _ (by decide)) rfl (fun w hS => ?_) ?_
      · simp [execOp, go_sem]
      simp only [Act.put, List.setIfInBounds_toArray, List.set_cons_succ, List.set_cons_zero]
      refine still_pure 1 (v := .slice pl ss.length cl) rfl (by kernel_rfl) (by kernel_rfl) (by kernel_rfl) ((hS.out.1 _).2 (by simpa using c2)) rfl (fun w hw => ?_) ?_
      · have hw := (hS.out.1 _).1 hw
        simp [execOp, go_sem, hw]
      simp only [Act.put, List.setIfInBounds_toArray, List.set_cons_succ, List.set_cons_zero]
      refine still_pure 3 (v := .pointer (some ⟨T, 0, none⟩)) rfl (by kernel_rfl) (by kernel_rfl) (by kernel_rfl) (hS.out.2 _ _ (by decide)) rfl (fun w hS => ?_) ?_
      · simp [execOp, go_sem]
      simp only [Act.put, List.setIfInBounds_toArray, List.set_cons_succ, List.set_cons_zero]
      have keepS : ∀ w w' : World, (w.cell? ⟨C, 2, none⟩ = some (.slice pl ss.length cl) → w'.cell? ⟨C, 2, none⟩ = some (.slice pl ss.length cl)) → ∀ i, S i w → S i w' := fun w w' h i hi => by
        by_cases h1 : i = 1
        · subst h1; exact (hS.out.1 _).2 (h ((hS.out.1 _).1 hi))
        · exact hS.out.2 _ _ h1
      have keepS := Lib.hid keepS
      refine still_pick [2, 4] (by kernel_rfl) (by decide) ?_
      intro i hi
      have hi : i = 2 ∨ i = 4 := by simpa using hi
      rcases hi with rfl | rfl
      · skip
        refine still_one (by rfl) (fun R hR => ?_)
        simp only [List.getElem_toArray, List.getElem_cons_succ, List.getElem_cons_zero]
        go_wp2_with fail
        refine only_normal (hR _ _ (fun i _ => keepS.out _ _ (fun h => (((Gr.refl wr).alloc _).drew.cells.1 C 2 cx).trans c2) i) ?_)
        simp only [Act.put, List.setIfInBounds_toArray, List.set_cons_succ, List.set_cons_zero]
        have hTa : Tape (wr.alloc (.cells #[.string ⟨#[72, 101, 108, 108, 111, 46]⟩, .string ⟨#[111, 110, 101, 32, 116, 119, 111, 32, 116, 104, 114, 101, 101]⟩, .string ⟨#[120]⟩, .string ⟨#[45, 32, 87, 104, 97, 116, 63, 32, 45, 32, 78, 111, 116, 104, 105, 110, 103, 44, 32, 110, 111, 116, 104, 105, 110, 103, 32, 97, 116, 32, 97, 108, 108, 46]⟩] 9)).drew T a cap xs k' := hTr.gr ((Gr.refl wr).alloc _).drew
        refine still_pick [4] (by kernel_rfl) (by decide) ?_
        intro i hi
        obtain rfl : i = 4 := by simpa using hi
        refine still_one (by rfl) (fun R hR => ?_)
        simp only [List.getElem_toArray, List.getElem_cons_succ, List.getElem_cons_zero]
        go_wp2_with (go_at_call 11; (with_reducible refine (HN.out _ k' 4 hTa ?_ ?_ ?_).mono ?_); (· omega); (· omega); (· omega); rintro e w4 ⟨r, rfl, r1, r2, hg4, hT4⟩)
        have hC4 : Cel w4 C [.int .i64 f, .int .i64 ct, .slice pl ss.length cl] := (hCc.gr ((Gr.refl wr).alloc _).drew).grown hg4 (fun h => by injection h with h; omega)
        have hb4 : Cel w4 w.heap.size [.int .i64 0, .int .i64 0, .slice none 0 0] := (hCb.gr ((Gr.refl wr).alloc _).drew).grown hg4 (fun h => by injection h with h; omega)
        have hO4 : StrsO (C + 1) 9 w4 (.slice pl ss.length cl) ss := World.ownsRow.kept (own_gr ((Gr.refl wr).alloc _).drew hO) hg4 (.inr (fun h => by have := own_ge hO _ h; omega))
        have hw4 : ByT w T w4 := (hB.gr ((Gr.refl wr).alloc _).drew).step hg4 (fun k h => by injection h with h; exact .inl h.symm)
        have hF : Cel w4 wr.heap.size (fourL.map Value.string) := (((Cel.new wr #[.string ⟨#[72, 101, 108, 108, 111, 46]⟩, .string ⟨#[111, 110, 101, 32, 116, 119, 111, 32, 116, 104, 114, 101, 101]⟩, .string ⟨#[120]⟩, .string ⟨#[45, 32, 87, 104, 97, 116, 63, 32, 45, 32, 78, 111, 116, 104, 105, 110, 103, 44, 32, 110, 111, 116, 104, 105, 110, 103, 32, 97, 116, 32, 97, 108, 108, 46]⟩] 9).drew).grown hg4 (fun h => by injection h with h; omega))
        refine only_normal (hR _ _ (fun i _ => keepS.out _ _ (fun h => hC4.three.2.2.2.1) i) ?_)
        simp only [Act.put, List.setIfInBounds_toArray, List.set_cons_succ, List.set_cons_zero]
        have hsz4 := hC4.lt
        clear hg4 hTa
        generalize wr.heap.size = G at hF ⊢
        obtain ⟨rn, rfl⟩ : ∃ rn : Nat, r = rn := ⟨r.toNat, by omega⟩
        obtain ⟨s, hs, hcell⟩ : ∃ s, s ∈ fourL ∧ w4.cell? ⟨G, rn, none⟩ = some (.string s) := by
          have hl : rn < fourL.length := by show rn < 4; omega
          exact ⟨fourL[rn], List.getElem_mem hl, (hF.2 rn _ (by simp [hl])).1⟩
        have hGl := hF.lt
        have q4 : (rn : Int) < 4 := r2
        clear hF
        refine still_pick [5] (by kernel_rfl) (by decide) ?_
        intro i hi
        obtain rfl : i = 5 := by simpa using hi
        refine still_one (by rfl) (fun R hR => ?_)
        simp only [List.getElem_toArray, List.getElem_cons_succ, List.getElem_cons_zero]
        go_wp2_with fail
        refine only_normal (hR _ _ (fun i _ => keepS.out _ _ (fun h => h) i) ?_)
        simp only [Act.put, List.setIfInBounds_toArray, List.set_cons_succ, List.set_cons_zero]
        refine still_pick [6] (by kernel_rfl) (by decide) ?_
        intro i hi
        obtain rfl : i = 6 := by simpa using hi
        refine still_one (by rfl) (fun R hR => ?_)
        simp only [List.getElem_toArray, List.getElem_cons_succ, List.getElem_cons_zero]
        go_wp2_with fail
        refine only_normal (hR _ _ (fun i _ => keepS.out _ _ (fun h => h) i) ?_)
        simp only [Act.put, List.setIfInBounds_toArray, List.set_cons_succ, List.set_cons_zero]
        refine still_pick [7] (by kernel_rfl) (by decide) ?_
        intro i hi
        obtain rfl : i = 7 := by simpa using hi
        refine still_one (by rfl) (fun R hR => ?_)
        simp only [List.getElem_toArray, List.getElem_cons_succ, List.getElem_cons_zero]
        go_wp2_with fail
        refine only_normal (hR _ _ (fun i _ => keepS.out _ _ (fun h => (((Gr.refl w4).alloc _).cells.1 C 2 hsz4).trans h) i) ?_)
        simp only [Act.put, List.setIfInBounds_toArray, List.set_cons_succ, List.set_cons_zero]
        refine still_pick [8] (by kernel_rfl) (by decide) ?_
        intro i hi
        obtain rfl : i = 8 := by simpa using hi
        refine still_one (by rfl) (fun R hR => ?_)
        simp only [List.getElem_toArray, List.getElem_cons_succ, List.getElem_cons_zero]
        go_wp2_with (at_builtin; go_loud (refine wpList_append_rd rfl (.tmp 23) (.tmp 29) 44 rfl (C + 1) 9 is (.string ByteArray.empty) 1 16 (by kernel_rfl) his hs0 hs1 hs2 rfl (by decide) _ _ _ rfl (World.ownsRow.alloc hO4 _) _ 1 [.string s] rfl (Rd.new w4 #[.string s] 9 1 1 1 rfl) ?_ ?_ ?_ ?_ ?_); (· intro u hu; simp at hu; subst hu; rfl); (· unfold maxLen; omega); (· omega); (· simp; omega); intro lv w5 hown5 hgrow5)
        have hC5 : Cel w5 C [.int .i64 f, .int .i64 ct, .slice pl ss.length cl] := (hC4.alloc _).grown hgrow5 (fun h => by have := own_ge hO _ h; omega)
        have hb5 : Cel w5 w.heap.size [.int .i64 0, .int .i64 0, .slice none 0 0] := (hb4.alloc _).grown hgrow5 (fun h => by have := own_ge hO _ h; omega)
        have hw5 : ByT w T w5 := (hw4.gr ((Gr.refl w4).alloc _)).step hgrow5 (fun k h => .inr (by have := own_ge hO _ h; omega))
        have hT5 : Tape w5 T a cap xs (k' + 1) := Tape.later hT.out hgrow5 (fun h => by have := own_ge hO _ h; omega) (fun k h => by have := own_ge hO _ h; omega) (hT4.gr ((Gr.refl w4).alloc _))
        clear hgrow5
        obtain ⟨p5, c5, rfl⟩ := own_shape hown5
        refine only_normal (hR _ _ (fun i _ => keepS.out _ _ (fun h => hC5.three.2.2.2.1) i) ?_)
        simp only [Act.put, List.setIfInBounds_toArray, List.set_cons_succ, List.set_cons_zero]
        obtain ⟨x5, _, _, y5, _, _, z5⟩ := hC5.three
        refine still_pick [9] (by kernel_rfl) (by decide) ?_
        intro i hi
        obtain rfl : i = 9 := by simpa using hi
        refine still_one (by rfl) (fun R hR => ?_)
        simp only [List.getElem_toArray, List.getElem_cons_succ, List.getElem_cons_zero]
        go_wp2_with fail
        refine only_normal (hR _ _ (fun i _ => keepS.out _ _ (fun h => h) i) ?_)
        simp only [Act.put, List.setIfInBounds_toArray, List.set_cons_succ, List.set_cons_zero]
        refine still_pick [10] (by kernel_rfl) (by decide) ?_
        intro i hi
        obtain rfl : i = 10 := by simpa using hi
        refine still_one (by rfl) (fun R hR => ?_)
        simp only [List.getElem_toArray, List.getElem_cons_succ, List.getElem_cons_zero]
        go_wp2_with fail
        refine only_normal (hR _ _ (fun i hn h => ?_) ?_)
        · by_cases h1 : i = 1
          · subst h1
            exact absurd ⟨_, rfl, ⟨1, .phase⟩, by simp, rfl, rfl⟩ hn
          · exact hS.out.2 _ _ h1
        simp only [Act.put, List.setIfInBounds_toArray, List.set_cons_succ, List.set_cons_zero]
        refine still_done (by kernel_rfl) ?_
        go_wp2
        have hs5 : w5.grownBy (w5.setCell ⟨C, 2, none⟩ (.slice p5 (ss.length + 1) c5)) (some C) := grown_setCell w5 ⟨C, 2, none⟩ (.slice p5 (ss.length + 1) c5)
        have hne : (Value.slice p5 (ss.length + 1) c5).ownBlock ≠ some C := fun h => by have := own_ge hown5 _ h; omega
        have e1 : ((j : Int) - 1) = ((j - 1 : Nat) : Int) := by omega
        refine ⟨⟨j - 1, k' + 1, .slice p5 (ss.length + 1) c5, ss ++ [s], by rw [e1], by omega, by omega, by simp; omega, by simp; omega, hw5.step hs5 (fun k h => by injection h with h; subst h; exact .inr (by omega)), Tape.later hT.out hs5 (fun h => by injection h with h; omega) (fun k h => by injection h with h; omega) hT5, hC5.set (k := 2) (by simp) _, hb5.grown hs5 (fun h => by injection h with h; omega), ?_, ?_⟩, ?_⟩
        · have := World.ownsRow.kept hown5 hs5 (.inr hne)
          unfold StrsO
          rw [List.length_append, List.map_append]
          exact this
        · refine Lib.hid fun x hx => ?_
          rcases List.mem_append.1 hx with h | h
          · exact hss.out x h
          · rw [List.mem_singleton.1 h]; exact hs
        · simp [RowKit.intOf]; omega
      · refine still_one (by rfl) (fun R hR => ?_)
        simp only [List.getElem_toArray, List.getElem_cons_succ, List.getElem_cons_zero]
        have hTa : Tape wr.drew T a cap xs k' := hTr.gr (Gr.refl wr).drew
        go_wp2_with (go_at_call 11; (with_reducible refine (HN.out _ k' 4 hTa ?_ ?_ ?_).mono ?_); (· omega); (· omega); (· omega); rintro e v4 ⟨r, rfl, r1, r2, hg4, hT4'⟩)
        have hC4' : Cel v4 C [.int .i64 f, .int .i64 ct, .slice pl ss.length cl] := (hCc.gr (Gr.refl wr).drew).grown hg4 (fun h => by injection h with h; omega)
        have hb4' : Cel v4 w.heap.size [.int .i64 0, .int .i64 0, .slice none 0 0] := (hCb.gr (Gr.refl wr).drew).grown hg4 (fun h => by injection h with h; omega)
        have hO4' : StrsO (C + 1) 9 v4 (.slice pl ss.length cl) ss := World.ownsRow.kept (own_gr (Gr.refl wr).drew hO) hg4 (.inr (fun h => by have := own_ge hO _ h; omega))
        have hw4' : ByT w T v4 := (hB.gr (Gr.refl wr).drew).step hg4 (fun k h => by injection h with h; exact .inl h.symm)
        refine only_normal (hR _ _ (fun i _ => keepS.out _ _ (fun h => hC4'.three.2.2.2.1) i) ?_)
        simp only [Act.put, List.setIfInBounds_toArray, List.set_cons_succ, List.set_cons_zero]
        clear hg4 hTa
        refine still_pick [2] (by kernel_rfl) (by decide) ?_
        intro i hi
        obtain rfl : i = 2 := by simpa using hi
        refine still_one (by rfl) (fun R hR => ?_)
        simp only [List.getElem_toArray, List.getElem_cons_succ, List.getElem_cons_zero]
        go_wp2_with fail
        have hsz4' := hC4'.lt
        refine only_normal (hR _ _ (fun i _ => keepS.out _ _ (fun h => ((Gr.refl v4).alloc _).cells.1 C 2 hsz4' |>.trans h) i) ?_)
        simp only [Act.put, List.setIfInBounds_toArray, List.set_cons_succ, List.set_cons_zero]
        have hF : Cel (v4.alloc (.cells #[.string ⟨#[72, 101, 108, 108, 111, 46]⟩, .string ⟨#[111, 110, 101, 32, 116, 119, 111, 32, 116, 104, 114, 101, 101]⟩, .string ⟨#[120]⟩, .string ⟨#[45, 32, 87, 104, 97, 116, 63, 32, 45, 32, 78, 111, 116, 104, 105, 110, 103, 44, 32, 110, 111, 116, 104, 105, 110, 103, 32, 97, 116, 32, 97, 108, 108, 46]⟩] 9)) v4.heap.size (fourL.map Value.string) := Cel.new v4 _ _
        have hgF : Gr v4 (v4.alloc (.cells #[.string ⟨#[72, 101, 108, 108, 111, 46]⟩, .string ⟨#[111, 110, 101, 32, 116, 119, 111, 32, 116, 104, 114, 101, 101]⟩, .string ⟨#[120]⟩, .string ⟨#[45, 32, 87, 104, 97, 116, 63, 32, 45, 32, 78, 111, 116, 104, 105, 110, 103, 44, 32, 110, 111, 116, 104, 105, 110, 103, 32, 97, 116, 32, 97, 108, 108, 46]⟩] 9)) := (Gr.refl v4).alloc _
        obtain ⟨w4, hw4e⟩ : ∃ w4, v4.alloc (.cells #[.string ⟨#[72, 101, 108, 108, 111, 46]⟩, .string ⟨#[111, 110, 101, 32, 116, 119, 111, 32, 116, 104, 114, 101, 101]⟩, .string ⟨#[120]⟩, .string ⟨#[45, 32, 87, 104, 97, 116, 63, 32, 45, 32, 78, 111, 116, 104, 105, 110, 103, 44, 32, 110, 111, 116, 104, 105, 110, 103, 32, 97, 116, 32, 97, 108, 108, 46]⟩] 9) = w4 := ⟨_, rfl⟩
        rw [hw4e] at hF hgF ⊢
        have hC4 := hC4'.gr hgF
        have hb4 := hb4'.gr hgF
        have hO4 := own_gr hgF hO4'
        have hw4 := hw4'.gr hgF
        have hT4 := hT4'.gr hgF
        have hsz4 := hC4.lt
        clear hw4e hgF
        generalize v4.heap.size = G at hF ⊢
        clear hC4' hb4' hO4' hw4' hT4' hsz4'
        obtain ⟨rn, rfl⟩ : ∃ rn : Nat, r = rn := ⟨r.toNat, by omega⟩
        obtain ⟨s, hs, hcell⟩ : ∃ s, s ∈ fourL ∧ w4.cell? ⟨G, rn, none⟩ = some (.string s) := by
          have hl : rn < fourL.length := by show rn < 4; omega
          exact ⟨fourL[rn], List.getElem_mem hl, (hF.2 rn _ (by simp [hl])).1⟩
        have hGl := hF.lt
        have q4 : (rn : Int) < 4 := r2
        clear hF
        refine still_pick [5] (by kernel_rfl) (by decide) ?_
        intro i hi
        obtain rfl : i = 5 := by simpa using hi
        refine still_one (by rfl) (fun R hR => ?_)
        simp only [List.getElem_toArray, List.getElem_cons_succ, List.getElem_cons_zero]
        go_wp2_with fail
        refine only_normal (hR _ _ (fun i _ => keepS.out _ _ (fun h => h) i) ?_)
        simp only [Act.put, List.setIfInBounds_toArray, List.set_cons_succ, List.set_cons_zero]
        refine still_pick [6] (by kernel_rfl) (by decide) ?_
        intro i hi
        obtain rfl : i = 6 := by simpa using hi
        refine still_one (by rfl) (fun R hR => ?_)
        simp only [List.getElem_toArray, List.getElem_cons_succ, List.getElem_cons_zero]
        go_wp2_with fail
        refine only_normal (hR _ _ (fun i _ => keepS.out _ _ (fun h => h) i) ?_)
        simp only [Act.put, List.setIfInBounds_toArray, List.set_cons_succ, List.set_cons_zero]
        refine still_pick [7] (by kernel_rfl) (by decide) ?_
        intro i hi
        obtain rfl : i = 7 := by simpa using hi
        refine still_one (by rfl) (fun R hR => ?_)
        simp only [List.getElem_toArray, List.getElem_cons_succ, List.getElem_cons_zero]
        go_wp2_with fail
        refine only_normal (hR _ _ (fun i _ => keepS.out _ _ (fun h => (((Gr.refl w4).alloc _).cells.1 C 2 hsz4).trans h) i) ?_)
        simp only [Act.put, List.setIfInBounds_toArray, List.set_cons_succ, List.set_cons_zero]
        refine still_pick [8] (by kernel_rfl) (by decide) ?_
        intro i hi
        obtain rfl : i = 8 := by simpa using hi
        refine still_one (by rfl) (fun R hR => ?_)
        simp only [List.getElem_toArray, List.getElem_cons_succ, List.getElem_cons_zero]
        go_wp2_with (at_builtin; go_loud (refine wpList_append_rd rfl (.tmp 23) (.tmp 29) 44 rfl (C + 1) 9 is (.string ByteArray.empty) 1 16 (by kernel_rfl) his hs0 hs1 hs2 rfl (by decide) _ _ _ rfl (World.ownsRow.alloc hO4 _) _ 1 [.string s] rfl (Rd.new w4 #[.string s] 9 1 1 1 rfl) ?_ ?_ ?_ ?_ ?_); (· intro u hu; simp at hu; subst hu; rfl); (· unfold maxLen; omega); (· omega); (· simp; omega); intro lv w5 hown5 hgrow5)
        have hC5 : Cel w5 C [.int .i64 f, .int .i64 ct, .slice pl ss.length cl] := (hC4.alloc _).grown hgrow5 (fun h => by have := own_ge hO _ h; omega)
        have hb5 : Cel w5 w.heap.size [.int .i64 0, .int .i64 0, .slice none 0 0] := (hb4.alloc _).grown hgrow5 (fun h => by have := own_ge hO _ h; omega)
        have hw5 : ByT w T w5 := (hw4.gr ((Gr.refl w4).alloc _)).step hgrow5 (fun k h => .inr (by have := own_ge hO _ h; omega))
        have hT5 : Tape w5 T a cap xs (k' + 1) := Tape.later hT.out hgrow5 (fun h => by have := own_ge hO _ h; omega) (fun k h => by have := own_ge hO _ h; omega) (hT4.gr ((Gr.refl w4).alloc _))
        clear hgrow5
        obtain ⟨p5, c5, rfl⟩ := own_shape hown5
        refine only_normal (hR _ _ (fun i _ => keepS.out _ _ (fun h => hC5.three.2.2.2.1) i) ?_)
        simp only [Act.put, List.setIfInBounds_toArray, List.set_cons_succ, List.set_cons_zero]
        obtain ⟨x5, _, _, y5, _, _, z5⟩ := hC5.three
        refine still_pick [9] (by kernel_rfl) (by decide) ?_
        intro i hi
        obtain rfl : i = 9 := by simpa using hi
        refine still_one (by rfl) (fun R hR => ?_)
        simp only [List.getElem_toArray, List.getElem_cons_succ, List.getElem_cons_zero]
        go_wp2_with fail
        refine only_normal (hR _ _ (fun i _ => keepS.out _ _ (fun h => h) i) ?_)
        simp only [Act.put, List.setIfInBounds_toArray, List.set_cons_succ, List.set_cons_zero]
        refine still_pick [10] (by kernel_rfl) (by decide) ?_
        intro i hi
        obtain rfl : i = 10 := by simpa using hi
        refine still_one (by rfl) (fun R hR => ?_)
        simp only [List.getElem_toArray, List.getElem_cons_succ, List.getElem_cons_zero]
        go_wp2_with fail
        refine only_normal (hR _ _ (fun i hn h => ?_) ?_)
        · by_cases h1 : i = 1
          · subst h1
            exact absurd ⟨_, rfl, ⟨1, .phase⟩, by simp, rfl, rfl⟩ hn
          · exact hS.out.2 _ _ h1
        simp only [Act.put, List.setIfInBounds_toArray, List.set_cons_succ, List.set_cons_zero]
        refine still_done (by kernel_rfl) ?_
        go_wp2
        have hs5 : w5.grownBy (w5.setCell ⟨C, 2, none⟩ (.slice p5 (ss.length + 1) c5)) (some C) := grown_setCell w5 ⟨C, 2, none⟩ (.slice p5 (ss.length + 1) c5)
        have hne : (Value.slice p5 (ss.length + 1) c5).ownBlock ≠ some C := fun h => by have := own_ge hown5 _ h; omega
        have e1 : ((j : Int) - 1) = ((j - 1 : Nat) : Int) := by omega
        refine ⟨⟨j - 1, k' + 1, .slice p5 (ss.length + 1) c5, ss ++ [s], by rw [e1], by omega, by omega, by simp; omega, by simp; omega, hw5.step hs5 (fun k h => by injection h with h; subst h; exact .inr (by omega)), Tape.later hT.out hs5 (fun h => by injection h with h; omega) (fun k h => by injection h with h; omega) hT5, hC5.set (k := 2) (by simp) _, hb5.grown hs5 (fun h => by injection h with h; omega), ?_, ?_⟩, ?_⟩
        · have := World.ownsRow.kept hown5 hs5 (.inr hne)
          unfold StrsO
          rw [List.length_append, List.map_append]
          exact this
        · refine Lib.hid fun x hx => ?_
          rcases List.mem_append.1 hx with h | h
          · exact hss.out x h
          · rw [List.mem_singleton.1 h]; exact hs
        · simp [RowKit.intOf]; omega
    · have q1 : decide (0 < (j : Int)) = false := decide_eq_false (by omega)
      obtain rfl : j = 0 := by omega
      obtain ⟨_, b0, b1, b2, bf0, bf1, bf2⟩ := hCb.three
      go_wp2
      simp [bodyPost, results, Tryz.results12, go_sem, b0, b1, b2]
      have hs := grown_three wr w.heap.size (.int .i64 f) (.int .i64 ct) (.slice pl ss.length cl)
      have hne : (Value.slice pl ss.length cl).ownBlock ≠ some w.heap.size := fun h => by have := own_ge hO _ h; omega
      have hok := World.ownsRow.kept hO hs (.inr hne)
      have hl : 1 ≤ ss.length := by omega
      have hv : vCu ⟨f, ct, .slice pl ss.length cl, ss⟩ = true := by
        unfold vCu
        rw [vCue_yes (by simp only; omega)]
        exact List.all_eq_true.2 fun s hs => fourL_ok s (hss.out s hs)
      exact ⟨⟨f, ct, .slice pl ss.length cl, ss⟩, rfl, hB.step hs (fun k h => by injection h with h; subst h; exact .inr (Nat.le_refl _)), k', Tape.later hT.out hs (fun h => by injection h with h; omega) (fun k h => by injection h with h; omega) hTr, h1, by omega, Rd.own hok, hv, f2, hct2.2, hss.out, C + 1, hok, by omega⟩
end Go.Proofs.YthadhmhbbfjomaaGreatDoor

/-
  Contracts of the makers of captions of the laws: made, ordered.
  Conditions: the numbers lie in memory.
-/
namespace Go.Proofs.YthadhmhbbfjomaaGreatDoor
open Go.RowKit Go.Lib
set_option linter.unusedSimpArgs false
set_option linter.unusedVariables false

/-- what the law's captions are -/
structure Made (cs : List Cu) : Prop where
  v : vCues cs = true
  n : cs.length ≤ 8
  four : ∀ c ∈ cs, ∀ s ∈ c.ss, s ∈ fourL
  small : ∀ c ∈ cs, c.t ≤ 240
theorem made_ok {c : Cu} (h : vCu c = true) (h4 : ∀ s ∈ c.ss, s ∈ fourL) : CuOk c := by
  have := vCu_bounds h
  refine ⟨by omega, by omega, by omega, by omega, by omega, fun s hs => ?_⟩
  have h5 : ∀ s ∈ fourL, s.size ≤ 140737488355328 := by decide +kernel
  exact h5 s (h4 s hs)
theorem CuesO.keep {base : Nat} {e : TypeId} {W w : World} {v : Value} {cs : List Cu} {T : Nat} (h : CuesO base e W v cs) (hg : W.grownBy w (some T)) (hT : T < base) (hl : ∀ c ∈ cs, c.lv.ownBlock ≠ some T) : CuesO base e w v cs := by
  refine ⟨h.own.kept hg (.inr (fun h1 => by have := own_ge h.own _ h1; omega)), fun c hc => ⟨Rd.grown hg (.inr (.inl (hl c hc))) (h.lines c hc).1, fun k hk => ?_⟩⟩
  rcases (h.lines c hc).2 k hk with h1 | ⟨c2, t2, f2, h2, hne⟩
  · exact .inl h1
  · refine .inr ⟨c2, t2, f2, ?_, hne⟩
    rw [hg.block k (Array.getElem?_eq_some_iff.1 h2).1 (fun e => hl c hc (by rw [hk]; exact e))]
    exact h2

end Go.Proofs.YthadhmhbbfjomaaGreatDoor
