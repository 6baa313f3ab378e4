/-
  Contract of the writer's event: a line of the text.
  Conditions: the event is valid; what is written takes at most 2^47 bytes; the table of powers is laid.
-/
import Derived.Test.YtgbiodnfpbhjiaaGreatDoorWalkFw
import Derived.Test.YtgbiodnfpbhjiaaGreatDoorWalkEc
import Derived.Deep.DeepCutAuto
namespace Go.Proofs.YtgbiodnfpbhjiaaGreatDoor
open Go.RowKit Go.Lib
set_option linter.unusedSimpArgs false
set_option linter.unusedVariables false

/-- what the writing of an event has in memory: the writer, the event -/
structure Ws (w0 W0 : World) (B E : Nat) (b : Int) (d : Bool) (vs : List Value) (w : World) (l : List UInt8) : Prop where
  by_ : By (Wb w0 B) w0 w
  gr0 : Gr W0 w
  wt : Wt w B b d l
  box : Blk w E 30 vs
theorem Ws.step {w0 W0 w w' : World} {B E : Nat} {b : Int} {d : Bool} {vs : List Value} {l l' : List UInt8} (h : Ws w0 W0 B E b d vs w l) (hE : E ≠ B) (hB : W0.heap.size ≤ B) (hw : Wt w' B b d l') (hy : By (Wb w B) w w') : Ws w0 W0 B E b d vs w' l' :=
  ⟨Wb.trans h.by_ hy, Wb.gr hy h.gr0 hB, hw, Wb.blk hy h.box hE (by decide)⟩
theorem Ws.gr {w0 W0 w w' : World} {B E : Nat} {b : Int} {d : Bool} {vs : List Value} {l : List UInt8} (h : Ws w0 W0 B E b d vs w l) (hg : Gr w w') : Ws w0 W0 B E b d vs w' l :=
  ⟨Wb.trans h.by_ (Wb.of_gr hg), h.gr0.trans hg, h.wt.gr hg, h.box.gr hg⟩
/-- a digit's text -/
theorem itoa_p {p : Int} (h0 : 0 ≤ p) (h1 : p < 10) : itoa p = [b8 (48 + p)] := by
  have h : ∀ m : Fin 10, itoa (m.1 : Int) = [b8 (48 + (m.1 : Int))] := by decide +kernel
  have := h ⟨p.toNat, by omega⟩
  simp only at this
  rwa [show ((p.toNat : Nat) : Int) = p by omega] at this
theorem t3_len (n : Int) : (t3 n).length = 3 := rfl
theorem kd_size {e : Ev} {n day : Int} (h : VE e n day) : (kdB e).length ≤ 6 := by
  unfold kdB
  split
  · simp
  · split <;> simp [t3]
theorem reel_size {e : Ev} {n day : Int} (h : VE e n day) : (reelB e).length ≤ 32 := by
  unfold reelB
  split
  · simp
  · rename_i hz
    rcases h.reel with h | h
    · exact absurd h hz
    · unfold nmB at h
      simp only [Bool.and_eq_true, decide_eq_true_eq] at h
      rw [ba_len]
      exact h.1.2
set_option maxRecDepth 20000 in
set_option maxHeartbeats 8000000 in
theorem wevent_any (W0 : World) (B : Nat) (b : Int) (d : Bool) (acc : List UInt8) (num : Int) (e : Ev) (least : Int) (w : World) (hP : Pow W0) (hg0 : Gr W0 w) (hB0 : W0.heap.size ≤ B) (h : Wt w B b d acc) (ho : C19.okB b d = true) (h0 : 0 ≤ least) (hv : VE e least (C19.dayN b d)) (hn0 : 0 ≤ num) (hn1 : num < 1000) (hlen : acc.length + 1000 ≤ 140737488355328) :
    Calls Tryz.prog 60 #[.pointer (some ⟨B, 0, none⟩), .int .i64 num, e.val] w fun en w' => en = .returned (.tuple #[]) ∧ Wt w' B b d (acc ++ (evL b d num e ++ [10])) ∧ By (Wb w B) w w' := by
  have hd := (C19.dayN_pos ho).2
  obtain ⟨bi0, bo0, bi1, bo1, bfr⟩ := hv.bounds h0
  have hks := kd_size hv
  have hrs := reel_size hv
  have hB := h.lt
  obtain ⟨E, hE⟩ : ∃ E, w.heap.size = E := ⟨_, rfl⟩
  have hEB : E ≠ B := by omega
  obtain ⟨vs, hvs⟩ : ∃ vs, e.cells = vs := ⟨_, rfl⟩
  have hS0 : Ws w W0 B E b d vs (w.alloc (.cells #[.int .i64 e.k, .int .i64 e.p, .int .i64 e.fr, .string e.reel, .int .i64 e.i, .int .i64 e.o, .int .i64 e.f, .int .i64 e.t] 30)) acc := by
    have hga := (Gr.refl w).alloc (.cells #[.int .i64 e.k, .int .i64 e.p, .int .i64 e.fr, .string e.reel, .int .i64 e.i, .int .i64 e.o, .int .i64 e.f, .int .i64 e.t] 30)
    rw [← hE, ← hvs]
    exact ⟨Wb.of_gr hga, hg0.trans hga, h.gr hga, Blk.new w e.cells _⟩
  have HT : Hid (∀ w' l' s, Ws w W0 B E b d vs w' l' → l'.length + s.size ≤ 140737488355328 → Calls Tryz.prog 59 #[.pointer (some ⟨B, 0, none⟩), .string s] w' fun en w'' => en = .returned (.tuple #[]) ∧ Ws w W0 B E b d vs w'' (l' ++ s.data.toList)) := fun w' l' s hs hl => (wtext_any B b d l' s w' hs.wt hl).mono fun en w'' ⟨h1, h2, h3⟩ => ⟨h1, hs.step hEB hB0 h2 h3⟩
  have H3 : Hid (∀ w' l' n, Ws w W0 B E b d vs w' l' → 0 ≤ n → n < 1000 → l'.length + 3 ≤ 140737488355328 → Calls Tryz.prog 100 #[.pointer (some ⟨B, 0, none⟩), .int .i64 n] w' fun en w'' => en = .returned (.tuple #[]) ∧ Ws w W0 B E b d vs w'' (l' ++ t3 n)) := fun w' l' n hs h1 h2 hl => (wthree_any B b d l' n w' hs.wt (Pow.gr hs.gr0 hP) h1 h2 hl).mono fun en w'' ⟨h1, h2, h3⟩ => ⟨h1, hs.step hEB hB0 h2 h3⟩
  have HC : Hid (∀ w' l' n, Ws w W0 B E b d vs w' l' → 0 ≤ n → n < C19.dayN b d → l'.length + 12 ≤ 140737488355328 → Calls Tryz.prog 101 #[.pointer (some ⟨B, 0, none⟩), .int .i64 n] w' fun en w'' => en = .returned (.tuple #[]) ∧ Ws w W0 B E b d vs w'' (l' ++ ([32] ++ labB n b d))) := fun w' l' n hs h1 h2 hl => (wcode_any B b d l' n w' hs.wt ho h1 h2 hl).mono fun en w'' ⟨h1, h2, h3⟩ => ⟨h1, hs.step hEB hB0 h2 h3⟩
  have HI : Hid (∀ w' l' p, Ws w W0 B E b d vs w' l' → 0 ≤ p → p < 10 → Calls Tryz.prog 102 #[.int .i64 p] w' fun en w'' => en = .returned (.string ⟨#[b8 (48 + p)]⟩) ∧ Ws w W0 B E b d vs w'' l') := fun w' l' p hs h1 h2 => (itoa_any p w' (Pow.gr hs.gr0 hP) (by omega) (by omega)).mono fun en w'' ⟨q1, q2⟩ => ⟨by rw [q1, itoa_p h1 h2], hs.gr q2⟩
  have hcell : Hid (∀ w' l', Ws w W0 B E b d vs w' l' → E < w'.heap.size ∧ w'.cell? ⟨E, 0, none⟩ = some (.int .i64 e.k) ∧ w'.cell? ⟨E, 1, none⟩ = some (.int .i64 e.p) ∧ w'.cell? ⟨E, 2, none⟩ = some (.int .i64 e.fr) ∧ w'.cell? ⟨E, 3, none⟩ = some (.string e.reel) ∧ w'.cell? ⟨E, 4, none⟩ = some (.int .i64 e.i) ∧ w'.cell? ⟨E, 5, none⟩ = some (.int .i64 e.o) ∧ w'.cell? ⟨E, 6, none⟩ = some (.int .i64 e.f) ∧ w'.cell? ⟨E, 7, none⟩ = some (.int .i64 e.t)) := fun w' l' hs => by
    have hb := hs.box
    rw [← hvs] at hb
    exact ⟨hb.lt, hb.cell 0, hb.cell 1, hb.cell 2, hb.cell 3, hb.cell 4, hb.cell 5, hb.cell 6, hb.cell 7⟩
  have fin : Hid (∀ w' l', Ws w W0 B E b d vs w' l' → l' = acc ++ (evL b d num e ++ [10]) → Wt w' B b d (acc ++ (evL b d num e ++ [10])) ∧ By (Wb w B) w w') := fun w' l' hs hl => by rw [← hl]; exact ⟨hs.wt, hs.by_⟩
  have hreel : Hid ((e.reel.size = 0 ∧ reelB e = [66, 76]) ∨ (e.reel.size ≠ 0 ∧ e.reel.size ≤ 32 ∧ reelB e = e.reel.data.toList)) := by
    by_cases hz : e.reel.size = 0
    · exact .inl ⟨hz, if_pos hz⟩
    · have hq : reelB e = e.reel.data.toList := if_neg hz
      rw [hq, ba_len] at hrs
      exact .inr ⟨hz, hrs, hq⟩
  have hkind : Hid ((e.k = 0 ∧ kdB e = [67]) ∨ (e.k = 1 ∧ 1 ≤ e.fr ∧ e.fr ≤ 999 ∧ kdB e = 68 :: 32 :: t3 e.fr) ∨ (e.k = 2 ∧ 1 ≤ e.fr ∧ e.fr ≤ 999 ∧ 0 ≤ e.p ∧ e.p ≤ 3 ∧ kdB e = 87 :: b8 (48 + e.p) :: 32 :: t3 e.fr)) := by
    unfold kdB
    rcases hv.kd with ⟨k0, _⟩ | ⟨k0, k1, k2, k3⟩ | ⟨k0, k1, k2, k3, k4⟩
    · exact .inl ⟨k0, if_pos k0⟩
    · exact .inr (.inl ⟨k0, k1, k2, by rw [if_neg (by omega), if_pos k0]⟩)
    · exact .inr (.inr ⟨k0, k1, k2, k3, k4, by rw [if_neg (by omega), if_neg (by omega)]⟩)
  have hev : Hid (evL b d num e = t3 num ++ ([32] ++ (reelB e ++ ([32, 86, 32] ++ (kdB e ++ ([32] ++ labB e.i b d ++ ([32] ++ labB e.o b d ++ ([32] ++ labB e.f b d ++ ([32] ++ labB e.t b d))))))))) := rfl
  have hlab : Hid (∀ n, (labB n b d).length = 11) := fun n => (labB_no ho).2
  have bt : e.f < e.t ∧ e.t < C19.dayN b d ∧ 0 ≤ e.f := ⟨hv.ft, hv.d, by have := hv.l; omega⟩
  have bi : e.i < C19.dayN b d ∧ e.o < C19.dayN b d := by have := hv.d; have := hv.ft; have := hv.l; rcases hv.rl with ⟨_, h1, h2⟩ | ⟨_, _, h1, h2, h3, h4⟩ <;> omega
  have hnm : ∀ w', Ws w W0 B E b d vs w' acc → True := fun _ _ => trivial
  clear hnm h hv hg0 hP hvs
  unfold Ev.val
  generalize reelB e = R at *
  generalize kdB e = K at *
  generalize evL b d num e = X at *
  generalize C19.dayN b d = day at *
  have hmf := hmf_any Tryz.prog
  subst hE
  go_enter Tryz.func60, Tryz.ntmps60
  go_upto_if 22 with (first
    | (go_at_call 100; (with_reducible refine (H3.out _ acc num hS0 hn0 hn1 ?_).mono ?_); (· omega); rintro en w1 ⟨rfl, hS1⟩)
    | (go_at_call 59; (with_reducible refine (HT.out _ (acc ++ t3 num) ⟨#[32]⟩ hS1 ?_).mono ?_); (· rw [show (⟨#[32]⟩ : ByteArray).size = 1 from rfl]; (try simp only [List.length_append, List.length_cons, List.length_nil, t3_len, hlab.out]); omega); rintro en w2 ⟨rfl, hS2⟩; obtain ⟨x0, y0, y1, y2, y3, y4, y5, y6, y7⟩ := hcell.out _ _ hS2))
  go_cut [24] (fun _ wx => Ws w W0 B w.heap.size b d vs wx (acc ++ t3 num ++ [32] ++ R))
  case first => as_aux_lemma =>
    rcases hreel.out with ⟨hz, hR⟩ | ⟨hz, hrz, hR⟩
    · have q : e.reel.toList.isEmpty = true := by rw [size_zero_iff]; exact decide_eq_true hz
      clear hz
      simp only [q]
      go_wp2_with (go_at_call 59; (with_reducible refine (HT.out _ (acc ++ t3 num ++ [32]) ⟨#[66, 76]⟩ hS2 ?_).mono ?_); (· rw [show (⟨#[66, 76]⟩ : ByteArray).size = 2 from rfl]; (try simp only [List.length_append, List.length_cons, List.length_nil, t3_len, hlab.out]); omega); rintro en w3 ⟨rfl, hS3⟩)
      go_meet
      rw [hR]
      exact hS3
    · have q : e.reel.toList.isEmpty = false := by rw [size_zero_iff]; exact decide_eq_false hz
      clear hz
      simp only [q]
      go_wp2_with (go_at_call 59; (with_reducible refine (HT.out _ (acc ++ t3 num ++ [32]) e.reel hS2 ?_).mono ?_); (· (try simp only [List.length_append, List.length_cons, List.length_nil, t3_len, hlab.out]); omega); rintro en w3 ⟨rfl, hS3⟩)
      go_meet
      rw [hR]
      exact hS3
  case rest => as_aux_lemma =>
    have hS3 := hcut
    clear hcut hS2 hS1 hS0 x0 y0 y1 y2 y3 y4 y5 y6 y7
    go_upto_region 8 with (go_at_call 59; (with_reducible refine (HT.out _ (acc ++ t3 num ++ [32] ++ R) ⟨#[32, 86, 32]⟩ hS3 ?_).mono ?_); (· rw [show (⟨#[32, 86, 32]⟩ : ByteArray).size = 3 from rfl]; (try simp only [List.length_append, List.length_cons, List.length_nil, t3_len, hlab.out]); omega); rintro en w4 ⟨rfl, hS4⟩; obtain ⟨x0, y0, y1, y2, y3, y4, y5, y6, y7⟩ := hcell.out _ _ hS4)
    go_cut [32] (fun v wx => v = .int .i64 e.k ∧ Ws w W0 B w.heap.size b d vs wx (acc ++ t3 num ++ [32] ++ R ++ [32, 86, 32]))
    case first => as_aux_lemma =>
      go_wp2
      go_meet
      exact ⟨rfl, hS4⟩
    case rest => as_aux_lemma =>
    obtain ⟨rfl, hS4⟩ := hcut
    obtain ⟨x0, y0, y1, y2, y3, y4, y5, y6, y7⟩ := hcell.out _ _ hS4
    clear hS3
    refine (‹∀ (a : Act) (w : World), Code.wp Tryz.prog (.block 0 _) _ a w → _›) _ _ ?_
    go_cut [35] (fun _ wx => Ws w W0 B w.heap.size b d vs wx (acc ++ t3 num ++ [32] ++ R ++ [32, 86, 32] ++ K))
    case first => as_aux_lemma =>
      rcases hkind.out with ⟨k0, hK⟩ | ⟨k0, k1, k2, hK⟩ | ⟨k0, k1, k2, k3, k4, hK⟩
      · have q0 : (e.k == 0) = true := beq_iff_eq.2 k0
        clear k0
        go_wp2_with (go_at_call 59; (with_reducible refine (HT.out _ (acc ++ t3 num ++ [32] ++ R ++ [32, 86, 32]) ⟨#[67]⟩ hS4 ?_).mono ?_); (· rw [show (⟨#[67]⟩ : ByteArray).size = 1 from rfl]; (try simp only [List.length_append, List.length_cons, List.length_nil, t3_len, hlab.out]); omega); rintro en w5 ⟨rfl, hS5⟩)
        go_meet
        rw [hK]
        exact hS5
      · have q0 : (e.k == 0) = false := beq_eq_false_iff_ne.2 (by omega)
        have q1 : (e.k == 1) = true := beq_iff_eq.2 k0
        clear k0
        go_wp2_with (first
          | (go_at_call 59; (with_reducible refine (HT.out _ (acc ++ t3 num ++ [32] ++ R ++ [32, 86, 32]) ⟨#[68, 32]⟩ hS4 ?_).mono ?_); (· rw [show (⟨#[68, 32]⟩ : ByteArray).size = 2 from rfl]; (try simp only [List.length_append, List.length_cons, List.length_nil, t3_len, hlab.out]); omega); rintro en w5 ⟨rfl, hS5⟩; obtain ⟨v0, z0, z1, z2, z3, z4, z5, z6, z7⟩ := hcell.out _ _ hS5)
          | (go_at_call 100; (with_reducible refine (H3.out _ (acc ++ t3 num ++ [32] ++ R ++ [32, 86, 32] ++ [68, 32]) e.fr hS5 ?_ ?_ ?_).mono ?_); (· omega); (· omega); (· (try simp only [List.length_append, List.length_cons, List.length_nil, t3_len, hlab.out]); omega); rintro en w6 ⟨rfl, hS6⟩))
        go_meet
        rw [hK]
        simpa only [List.append_assoc, List.cons_append, List.nil_append] using hS6
      · have q0 : (e.k == 0) = false := beq_eq_false_iff_ne.2 (by omega)
        have q1 : (e.k == 1) = false := beq_eq_false_iff_ne.2 (by omega)
        have q2 : (e.k == 2) = true := beq_iff_eq.2 k0
        have hX3 : Hid ((⟨#[87]⟩ ++ ⟨#[b8 (48 + e.p)]⟩ ++ ⟨#[32]⟩ : ByteArray).data.toList = [87, b8 (48 + e.p), 32]) := Lib.hid (by simp)
        have hXs : Hid ((⟨#[87]⟩ ++ ⟨#[b8 (48 + e.p)]⟩ ++ ⟨#[32]⟩ : ByteArray).size = 3) := Lib.hid (by rw [← ba_len, hX3.out]; rfl)
        clear k0
        go_wp2_with (first
          | (go_at_call 102; (with_reducible refine (HI.out _ (acc ++ t3 num ++ [32] ++ R ++ [32, 86, 32]) e.p hS4 k3 ?_).mono ?_); (· omega); rintro en w5 ⟨rfl, hS5⟩; obtain ⟨v0, z0, z1, z2, z3, z4, z5, z6, z7⟩ := hcell.out _ _ hS5)
          | (go_at_call 59; (with_reducible refine (HT.out _ (acc ++ t3 num ++ [32] ++ R ++ [32, 86, 32]) (⟨#[87]⟩ ++ ⟨#[b8 (48 + e.p)]⟩ ++ ⟨#[32]⟩) hS5 ?_).mono ?_); (· rw [hXs.out]; (try simp only [List.length_append, List.length_cons, List.length_nil, t3_len, hlab.out]); omega); rintro en w6 ⟨rfl, hS6⟩; (rw [hX3.out] at hS6); obtain ⟨v0, z0, z1, z2, z3, z4, z5, z6, z7⟩ := hcell.out _ _ hS6)
          | (go_at_call 100; (with_reducible refine (H3.out _ (acc ++ t3 num ++ [32] ++ R ++ [32, 86, 32] ++ [87, b8 (48 + e.p), 32]) e.fr hS6 ?_ ?_ ?_).mono ?_); (· omega); (· omega); (· (try simp only [List.length_append, List.length_cons, List.length_nil, t3_len, hlab.out]); omega); rintro en w7 ⟨rfl, hS7⟩))
        go_meet
        rw [hK]
        simpa only [List.append_assoc, List.cons_append, List.nil_append] using hS7
    case rest => as_aux_lemma =>
      have hS5 := hcut
      obtain ⟨x0, y0, y1, y2, y3, y4, y5, y6, y7⟩ := hcell.out _ _ hS5
      clear hcut
      obtain ⟨A, hA⟩ : ∃ A, acc ++ t3 num ++ [32] ++ R ++ [32, 86, 32] ++ K = A := ⟨_, rfl⟩
      have hAl : A.length + 200 ≤ 140737488355328 := by rw [← hA]; (try simp only [List.length_append, List.length_cons, List.length_nil, t3_len, hlab.out]); omega
      rw [hA] at hS5
      replace hA := Lib.hid hA
      go_wp2_with (first
        | (go_at_call 101; (with_reducible refine (HC.out _ A e.i hS5 ?_ ?_ ?_).mono ?_); (· omega); (· omega); (· (try simp only [List.length_append, List.length_cons, List.length_nil, t3_len, hlab.out]); omega); rintro en w6 ⟨rfl, hS6⟩; obtain ⟨v0, z0, z1, z2, z3, z4, z5, z6, z7⟩ := hcell.out _ _ hS6)
        | (go_at_call 101; (with_reducible refine (HC.out _ (A ++ ([32] ++ labB e.i b d)) e.o hS6 ?_ ?_ ?_).mono ?_); (· omega); (· omega); (· (try simp only [List.length_append, List.length_cons, List.length_nil, t3_len, hlab.out]); omega); rintro en w7 ⟨rfl, hS7⟩; obtain ⟨v0, z0, z1, z2, z3, z4, z5, z6, z7⟩ := hcell.out _ _ hS7)
        | (go_at_call 101; (with_reducible refine (HC.out _ (A ++ ([32] ++ labB e.i b d) ++ ([32] ++ labB e.o b d)) e.f hS7 ?_ ?_ ?_).mono ?_); (· omega); (· omega); (· (try simp only [List.length_append, List.length_cons, List.length_nil, t3_len, hlab.out]); omega); rintro en w8 ⟨rfl, hS8⟩; obtain ⟨v0, z0, z1, z2, z3, z4, z5, z6, z7⟩ := hcell.out _ _ hS8)
        | (go_at_call 101; (with_reducible refine (HC.out _ (A ++ ([32] ++ labB e.i b d) ++ ([32] ++ labB e.o b d) ++ ([32] ++ labB e.f b d)) e.t hS8 ?_ ?_ ?_).mono ?_); (· omega); (· omega); (· (try simp only [List.length_append, List.length_cons, List.length_nil, t3_len, hlab.out]); omega); rintro en w9 ⟨rfl, hS9⟩)
        | (go_at_call 59; (with_reducible refine (HT.out _ (A ++ ([32] ++ labB e.i b d) ++ ([32] ++ labB e.o b d) ++ ([32] ++ labB e.f b d) ++ ([32] ++ labB e.t b d)) ⟨#[10]⟩ hS9 ?_).mono ?_); (· rw [show (⟨#[10]⟩ : ByteArray).size = 1 from rfl]; (try simp only [List.length_append, List.length_cons, List.length_nil, t3_len, hlab.out]); omega); rintro en w10 ⟨rfl, hS10⟩))
      refine bodyPost_end (v := .tuple #[]) ?_ ?_ ?_
      · exact results_none rfl _ _ _
      · rfl
      obtain ⟨q1, q2⟩ := fin.out _ _ hS10 (by rw [← hA.out, hev.out]; simp only [List.append_assoc, List.cons_append, List.nil_append])
      exact ⟨rfl, q1, q2⟩
end Go.Proofs.YtgbiodnfpbhjiaaGreatDoor
