/-
  Contracts: titles and names, of packages edl and timeline and of the reference.
  Conditions: the string has at most 2^47 bytes.
-/
import Derived.Test.YtgbiodnfpbhjiaaGreatDoorMathCc
namespace Go.Proofs.YtgbiodnfpbhjiaaGreatDoor
open Go.RowKit Go.Lib
set_option linter.unusedSimpArgs false
set_option linter.unusedVariables false

def nmY (y : Int) : Bool := decide (97 ≤ y ∧ y ≤ 122) || decide (48 ≤ y ∧ y ≤ 57) || decide (y = 45) || decide (y = 95) || decide (y = 46)
theorem nmc_eq {b : UInt8} {y : Int} (h : (b.toNat : Int) = y) : nmc b = nmY y := by
  have e : ∀ p q : Prop, [Decidable p] → [Decidable q] → (p ↔ q) → decide p = decide q := fun p q _ _ h => by rw [decide_eq_decide]; exact h
  unfold nmc nmY
  rw [e _ (97 ≤ y ∧ y ≤ 122) (by omega), e (48 ≤ b.toNat ∧ b.toNat ≤ 57) (48 ≤ y ∧ y ≤ 57) (by omega), e (b.toNat = 45) (y = 45) (by omega), e (b.toNat = 95) (y = 95) (by omega), e (b.toNat = 46) (y = 46) (by omega)]
theorem nm_cases (y : Int) : (nmY y = true ∧ 97 ≤ y ∧ y ≤ 122) ∨ (nmY y = true ∧ 48 ≤ y ∧ y ≤ 57) ∨ (nmY y = true ∧ y = 45) ∨ (nmY y = true ∧ y = 95) ∨ (nmY y = true ∧ y = 46) ∨
    (nmY y = false ∧ 122 < y) ∨ (nmY y = false ∧ y < 48 ∧ y ≠ 45 ∧ y ≠ 46) ∨ (nmY y = false ∧ 57 < y ∧ y < 97 ∧ y ≠ 95) ∨ (nmY y = false ∧ y < 0) := by
  by_cases h : nmY y = true
  · have h2 := h
    unfold nmY at h2
    simp only [Bool.or_eq_true, decide_eq_true_eq] at h2
    rcases h2 with (((h2 | h2) | h2) | h2) | h2
    · exact .inl ⟨h, h2⟩
    · exact .inr (.inl ⟨h, h2⟩)
    · exact .inr (.inr (.inl ⟨h, h2⟩))
    · exact .inr (.inr (.inr (.inl ⟨h, h2⟩)))
    · exact .inr (.inr (.inr (.inr (.inl ⟨h, h2⟩))))
  · have h : nmY y = false := by simpa using h
    have h2 := h
    unfold nmY at h2
    simp only [Bool.or_eq_false_iff, decide_eq_false_iff_not] at h2
    obtain ⟨⟨⟨⟨a, b⟩, c⟩, d⟩, e⟩ := h2
    rcases (show 122 < y ∨ (y < 48 ∧ y ≠ 45 ∧ y ≠ 46) ∨ (57 < y ∧ y < 97 ∧ y ≠ 95) by omega) with h3 | h3 | h3
    · exact .inr (.inr (.inr (.inr (.inr (.inl ⟨h, h3⟩)))))
    · exact .inr (.inr (.inr (.inr (.inr (.inr (.inl ⟨h, h3⟩))))))
    · exact .inr (.inr (.inr (.inr (.inr (.inr (.inr (.inl ⟨h, h3⟩)))))))

set_option maxHeartbeats 1000000 in
theorem title_any (s : ByteArray) (w : World) (hs : s.size ≤ 140737488355328) :
    Calls Tryz.prog 36 #[.string s] w fun e w' => e = .returned (.bool (vLine s)) ∧ Gr w w' := by
  obtain ⟨R, hR⟩ : ∃ R, s.data.toList.all okB = R := ⟨_, rfl⟩
  unfold vLine
  rw [hR]
  have HS : Hid ((s.data.toList.drop 0).all okB = R) := hR
  clear hR
  by_cases h1 : s.size < 1
  · have q1 : decide (s.size < 1) = true := decide_eq_true h1
    go_enter Tryz.func36, Tryz.ntmps36
    go_wp2
    go_ret
    exact ⟨by rw [decide_eq_false (by omega : ¬ 1 ≤ s.size)]; rfl, (by repeat (first | with_reducible exact Gr.refl _ | with_reducible assumption | refine Gr.setCell ?_ (by first | omega | (simp; done) | (simp; omega)) _ | refine Gr.alloc ?_ _ | refine Gr.drew ?_ | refine Gr.drewN ?_ _ | refine Gr.trans ?_ (by with_reducible assumption)))⟩
  by_cases h2 : 64 < s.size
  · have q1 : decide (s.size < 1) = false := decide_eq_false h1
    have q2 : decide (64 < s.size) = true := decide_eq_true h2
    go_enter Tryz.func36, Tryz.ntmps36
    go_wp2
    go_ret
    exact ⟨by rw [decide_eq_false (by omega : ¬ s.size ≤ 64)]; simp, (by repeat (first | with_reducible exact Gr.refl _ | with_reducible assumption | refine Gr.setCell ?_ (by first | omega | (simp; done) | (simp; omega)) _ | refine Gr.alloc ?_ _ | refine Gr.drew ?_ | refine Gr.drewN ?_ _ | refine Gr.trans ?_ (by with_reducible assumption)))⟩
  have q1 : decide (s.size < 1) = false := decide_eq_false h1
  have q2 : decide (64 < s.size) = false := decide_eq_false h2
  rw [decide_eq_true (by omega : 1 ≤ s.size), decide_eq_true (by omega : s.size ≤ 64)]
  go_enter Tryz.func36, Tryz.ntmps36
  go_wp2
  go_loop [3, 14] (fun _ k => ∃ kk : Nat, kk ≤ s.size ∧ k = .int .i64 kk ∧ Hid ((s.data.toList.drop kk).all okB = R)) (fun _ k => s.size - (RowKit.intOf k).toNat)
  case atStart => exact ⟨0, Nat.zero_le _, rfl, HS⟩
  case round =>
    obtain ⟨kk, h3, rfl, hno⟩ := hrel
    clear HS
    by_cases c1 : kk < s.size
    · have q3 : decide (kk < s.size) = true := decide_eq_true c1
      have hd := hno.out
      rw [ba_drop s kk c1, List.all_cons] at hd
      by_cases c2 : (s[kk].toNat : Int) < 32
      · have q4 : decide ((s[kk].toNat : Int) < 32) = true := decide_eq_true c2
        have hv : Hid (R = false) := by
          have : okB s[kk] = false := by unfold okB; rw [decide_eq_false (by omega)]; rfl
          rw [this] at hd
          exact hd.symm
        clear hd hno
        go_wp2
        go_ret
        exact ⟨by rw [hv.out]; rfl, (by repeat (first | with_reducible exact Gr.refl _ | with_reducible assumption | refine Gr.setCell ?_ (by first | omega | (simp; done) | (simp; omega)) _ | refine Gr.alloc ?_ _ | refine Gr.drew ?_ | refine Gr.drewN ?_ _ | refine Gr.trans ?_ (by with_reducible assumption)))⟩
      by_cases c3 : 126 < (s[kk].toNat : Int)
      · have q4 : decide ((s[kk].toNat : Int) < 32) = false := decide_eq_false c2
        have q5 : decide (126 < (s[kk].toNat : Int)) = true := decide_eq_true c3
        have hv : Hid (R = false) := by
          have : okB s[kk] = false := by unfold okB; rw [decide_eq_false (by omega : ¬ s[kk].toNat ≤ 126)]; simp
          rw [this] at hd
          exact hd.symm
        clear hd hno
        go_wp2
        go_ret
        exact ⟨by rw [hv.out]; rfl, (by repeat (first | with_reducible exact Gr.refl _ | with_reducible assumption | refine Gr.setCell ?_ (by first | omega | (simp; done) | (simp; omega)) _ | refine Gr.alloc ?_ _ | refine Gr.drew ?_ | refine Gr.drewN ?_ _ | refine Gr.trans ?_ (by with_reducible assumption)))⟩
      have q4 : decide ((s[kk].toNat : Int) < 32) = false := decide_eq_false c2
      have q5 : decide (126 < (s[kk].toNat : Int)) = false := decide_eq_false c3
      have hv : Hid ((s.data.toList.drop (kk + 1)).all okB = R) := by
        have : okB s[kk] = true := by unfold okB; rw [decide_eq_true (by omega), decide_eq_true (by omega)]; rfl
        rw [this] at hd
        exact hd
      clear hd hno
      go_wp2
      exact ⟨⟨kk + 1, by omega, by go_num, hv⟩, by simp [RowKit.intOf]; omega⟩
    · have q3 : decide (kk < s.size) = false := decide_eq_false c1
      have hv : Hid (R = true) := by
        have hd := hno.out
        rw [ba_drop_end s kk (by omega)] at hd
        exact hd.symm
      clear hno
      go_wp2
      go_ret
      exact ⟨by rw [hv.out]; rfl, (by repeat (first | with_reducible exact Gr.refl _ | with_reducible assumption | refine Gr.setCell ?_ (by first | omega | (simp; done) | (simp; omega)) _ | refine Gr.alloc ?_ _ | refine Gr.drew ?_ | refine Gr.drewN ?_ _ | refine Gr.trans ?_ (by with_reducible assumption)))⟩

set_option maxHeartbeats 2000000 in
theorem validName_any (s : ByteArray) (w : World) (hs : s.size ≤ 140737488355328) :
    Calls Tryz.prog 81 #[.string s] w fun e w' => e = .returned (.bool (nmB s)) ∧ Gr w w' := by
  obtain ⟨R, hR⟩ : ∃ R, s.data.toList.all nmc = R := ⟨_, rfl⟩
  unfold nmB
  rw [hR]
  have HS : Hid ((s.data.toList.drop 0).all nmc = R) := hR
  clear hR
  by_cases h1 : s.size < 1
  · have q1 : decide (s.size < 1) = true := decide_eq_true h1
    go_enter Tryz.func81, Tryz.ntmps81
    go_wp2
    go_ret
    exact ⟨by rw [decide_eq_false (by omega : ¬ 1 ≤ s.size)]; rfl, (by repeat (first | with_reducible exact Gr.refl _ | with_reducible assumption | refine Gr.setCell ?_ (by first | omega | (simp; done) | (simp; omega)) _ | refine Gr.alloc ?_ _ | refine Gr.drew ?_ | refine Gr.drewN ?_ _ | refine Gr.trans ?_ (by with_reducible assumption)))⟩
  by_cases h2 : 32 < s.size
  · have q1 : decide (s.size < 1) = false := decide_eq_false h1
    have q2 : decide (32 < s.size) = true := decide_eq_true h2
    go_enter Tryz.func81, Tryz.ntmps81
    go_wp2
    go_ret
    exact ⟨by rw [decide_eq_false (by omega : ¬ s.size ≤ 32)]; simp, (by repeat (first | with_reducible exact Gr.refl _ | with_reducible assumption | refine Gr.setCell ?_ (by first | omega | (simp; done) | (simp; omega)) _ | refine Gr.alloc ?_ _ | refine Gr.drew ?_ | refine Gr.drewN ?_ _ | refine Gr.trans ?_ (by with_reducible assumption)))⟩
  have q1 : decide (s.size < 1) = false := decide_eq_false h1
  have q2 : decide (32 < s.size) = false := decide_eq_false h2
  rw [decide_eq_true (by omega : 1 ≤ s.size), decide_eq_true (by omega : s.size ≤ 32)]
  go_enter Tryz.func81, Tryz.ntmps81
  go_wp2
  go_loop [3, 4, 15] (fun _ _ k => ∃ kk : Nat, kk ≤ s.size ∧ k = .int .i64 kk ∧ Hid ((s.data.toList.drop kk).all nmc = R)) (fun _ _ k => s.size - (RowKit.intOf k).toNat)
  case atStart => exact ⟨0, Nat.zero_le _, rfl, HS⟩
  case round =>
    obtain ⟨kk, h3, rfl, hno⟩ := hrel
    clear HS
    by_cases c1 : kk < s.size
    · have q3 : decide (kk < s.size) = true := decide_eq_true c1
      have hd := hno.out
      rw [ba_drop s kk c1, List.all_cons] at hd
      obtain ⟨y, hy⟩ : ∃ y : Int, (s[kk].toNat : Int) = y := ⟨_, rfl⟩
      have hyb : 0 ≤ y := by omega
      have hm : nmc s[kk] = nmY y := nmc_eq hy
      rw [hm] at hd
      rcases nm_cases y with ⟨g, c⟩ | ⟨g, c⟩ | ⟨g, c⟩ | ⟨g, c⟩ | ⟨g, c⟩ | ⟨g, c⟩ | ⟨g, c⟩ | ⟨g, c⟩ | ⟨g, c⟩ <;> rw [g] at hd
      · have hv : Hid ((s.data.toList.drop (kk + 1)).all nmc = R) := hd
        clear hd hno hm
        (first | have t1 : decide (y < 97) = true := decide_eq_true (by omega) | have t1 : decide (y < 97) = false := decide_eq_false (by omega))
        (first | have t2 : decide (122 < y) = true := decide_eq_true (by omega) | have t2 : decide (122 < y) = false := decide_eq_false (by omega))
        (first | have t3 : decide (y < 48) = true := decide_eq_true (by omega) | have t3 : decide (y < 48) = false := decide_eq_false (by omega))
        (first | have t4 : decide (57 < y) = true := decide_eq_true (by omega) | have t4 : decide (57 < y) = false := decide_eq_false (by omega))
        (first | have t5 : (y != 45) = true := bne_iff_ne.2 (by omega) | have t5 : (y != 45) = false := by rw [show y = 45 by omega]; rfl)
        (first | have t6 : (y != 95) = true := bne_iff_ne.2 (by omega) | have t6 : (y != 95) = false := by rw [show y = 95 by omega]; rfl)
        (first | have t7 : (y != 46) = true := bne_iff_ne.2 (by omega) | have t7 : (y != 46) = false := by rw [show y = 46 by omega]; rfl)
        go_wp2
        exact ⟨⟨kk + 1, by omega, by go_num, hv⟩, by simp [RowKit.intOf]; omega⟩
      · have hv : Hid ((s.data.toList.drop (kk + 1)).all nmc = R) := hd
        clear hd hno hm
        (first | have t1 : decide (y < 97) = true := decide_eq_true (by omega) | have t1 : decide (y < 97) = false := decide_eq_false (by omega))
        (first | have t2 : decide (122 < y) = true := decide_eq_true (by omega) | have t2 : decide (122 < y) = false := decide_eq_false (by omega))
        (first | have t3 : decide (y < 48) = true := decide_eq_true (by omega) | have t3 : decide (y < 48) = false := decide_eq_false (by omega))
        (first | have t4 : decide (57 < y) = true := decide_eq_true (by omega) | have t4 : decide (57 < y) = false := decide_eq_false (by omega))
        (first | have t5 : (y != 45) = true := bne_iff_ne.2 (by omega) | have t5 : (y != 45) = false := by rw [show y = 45 by omega]; rfl)
        (first | have t6 : (y != 95) = true := bne_iff_ne.2 (by omega) | have t6 : (y != 95) = false := by rw [show y = 95 by omega]; rfl)
        (first | have t7 : (y != 46) = true := bne_iff_ne.2 (by omega) | have t7 : (y != 46) = false := by rw [show y = 46 by omega]; rfl)
        go_wp2
        exact ⟨⟨kk + 1, by omega, by go_num, hv⟩, by simp [RowKit.intOf]; omega⟩
      · have hv : Hid ((s.data.toList.drop (kk + 1)).all nmc = R) := hd
        clear hd hno hm
        (first | have t1 : decide (y < 97) = true := decide_eq_true (by omega) | have t1 : decide (y < 97) = false := decide_eq_false (by omega))
        (first | have t2 : decide (122 < y) = true := decide_eq_true (by omega) | have t2 : decide (122 < y) = false := decide_eq_false (by omega))
        (first | have t3 : decide (y < 48) = true := decide_eq_true (by omega) | have t3 : decide (y < 48) = false := decide_eq_false (by omega))
        (first | have t4 : decide (57 < y) = true := decide_eq_true (by omega) | have t4 : decide (57 < y) = false := decide_eq_false (by omega))
        (first | have t5 : (y != 45) = true := bne_iff_ne.2 (by omega) | have t5 : (y != 45) = false := by rw [show y = 45 by omega]; rfl)
        (first | have t6 : (y != 95) = true := bne_iff_ne.2 (by omega) | have t6 : (y != 95) = false := by rw [show y = 95 by omega]; rfl)
        (first | have t7 : (y != 46) = true := bne_iff_ne.2 (by omega) | have t7 : (y != 46) = false := by rw [show y = 46 by omega]; rfl)
        go_wp2
        exact ⟨⟨kk + 1, by omega, by go_num, hv⟩, by simp [RowKit.intOf]; omega⟩
      · have hv : Hid ((s.data.toList.drop (kk + 1)).all nmc = R) := hd
        clear hd hno hm
        (first | have t1 : decide (y < 97) = true := decide_eq_true (by omega) | have t1 : decide (y < 97) = false := decide_eq_false (by omega))
        (first | have t2 : decide (122 < y) = true := decide_eq_true (by omega) | have t2 : decide (122 < y) = false := decide_eq_false (by omega))
        (first | have t3 : decide (y < 48) = true := decide_eq_true (by omega) | have t3 : decide (y < 48) = false := decide_eq_false (by omega))
        (first | have t4 : decide (57 < y) = true := decide_eq_true (by omega) | have t4 : decide (57 < y) = false := decide_eq_false (by omega))
        (first | have t5 : (y != 45) = true := bne_iff_ne.2 (by omega) | have t5 : (y != 45) = false := by rw [show y = 45 by omega]; rfl)
        (first | have t6 : (y != 95) = true := bne_iff_ne.2 (by omega) | have t6 : (y != 95) = false := by rw [show y = 95 by omega]; rfl)
        (first | have t7 : (y != 46) = true := bne_iff_ne.2 (by omega) | have t7 : (y != 46) = false := by rw [show y = 46 by omega]; rfl)
        go_wp2
        exact ⟨⟨kk + 1, by omega, by go_num, hv⟩, by simp [RowKit.intOf]; omega⟩
      · have hv : Hid ((s.data.toList.drop (kk + 1)).all nmc = R) := hd
        clear hd hno hm
        (first | have t1 : decide (y < 97) = true := decide_eq_true (by omega) | have t1 : decide (y < 97) = false := decide_eq_false (by omega))
        (first | have t2 : decide (122 < y) = true := decide_eq_true (by omega) | have t2 : decide (122 < y) = false := decide_eq_false (by omega))
        (first | have t3 : decide (y < 48) = true := decide_eq_true (by omega) | have t3 : decide (y < 48) = false := decide_eq_false (by omega))
        (first | have t4 : decide (57 < y) = true := decide_eq_true (by omega) | have t4 : decide (57 < y) = false := decide_eq_false (by omega))
        (first | have t5 : (y != 45) = true := bne_iff_ne.2 (by omega) | have t5 : (y != 45) = false := by rw [show y = 45 by omega]; rfl)
        (first | have t6 : (y != 95) = true := bne_iff_ne.2 (by omega) | have t6 : (y != 95) = false := by rw [show y = 95 by omega]; rfl)
        (first | have t7 : (y != 46) = true := bne_iff_ne.2 (by omega) | have t7 : (y != 46) = false := by rw [show y = 46 by omega]; rfl)
        go_wp2
        exact ⟨⟨kk + 1, by omega, by go_num, hv⟩, by simp [RowKit.intOf]; omega⟩
      · have hv : Hid (R = false) := hd.symm
        clear hd hno hm
        (first | have t1 : decide (y < 97) = true := decide_eq_true (by omega) | have t1 : decide (y < 97) = false := decide_eq_false (by omega))
        (first | have t2 : decide (122 < y) = true := decide_eq_true (by omega) | have t2 : decide (122 < y) = false := decide_eq_false (by omega))
        (first | have t3 : decide (y < 48) = true := decide_eq_true (by omega) | have t3 : decide (y < 48) = false := decide_eq_false (by omega))
        (first | have t4 : decide (57 < y) = true := decide_eq_true (by omega) | have t4 : decide (57 < y) = false := decide_eq_false (by omega))
        have t5 : (y != 45) = true := bne_iff_ne.2 (by omega)
        have t6 : (y != 95) = true := bne_iff_ne.2 (by omega)
        have t7 : (y != 46) = true := bne_iff_ne.2 (by omega)
        go_wp2
        go_ret
        exact ⟨by rw [hv.out]; rfl, (by repeat (first | with_reducible exact Gr.refl _ | with_reducible assumption | refine Gr.setCell ?_ (by first | omega | (simp; done) | (simp; omega)) _ | refine Gr.alloc ?_ _ | refine Gr.drew ?_ | refine Gr.drewN ?_ _ | refine Gr.trans ?_ (by with_reducible assumption)))⟩
      · have hv : Hid (R = false) := hd.symm
        clear hd hno hm
        (first | have t1 : decide (y < 97) = true := decide_eq_true (by omega) | have t1 : decide (y < 97) = false := decide_eq_false (by omega))
        (first | have t2 : decide (122 < y) = true := decide_eq_true (by omega) | have t2 : decide (122 < y) = false := decide_eq_false (by omega))
        (first | have t3 : decide (y < 48) = true := decide_eq_true (by omega) | have t3 : decide (y < 48) = false := decide_eq_false (by omega))
        (first | have t4 : decide (57 < y) = true := decide_eq_true (by omega) | have t4 : decide (57 < y) = false := decide_eq_false (by omega))
        have t5 : (y != 45) = true := bne_iff_ne.2 (by omega)
        have t6 : (y != 95) = true := bne_iff_ne.2 (by omega)
        have t7 : (y != 46) = true := bne_iff_ne.2 (by omega)
        go_wp2
        go_ret
        exact ⟨by rw [hv.out]; rfl, (by repeat (first | with_reducible exact Gr.refl _ | with_reducible assumption | refine Gr.setCell ?_ (by first | omega | (simp; done) | (simp; omega)) _ | refine Gr.alloc ?_ _ | refine Gr.drew ?_ | refine Gr.drewN ?_ _ | refine Gr.trans ?_ (by with_reducible assumption)))⟩
      · have hv : Hid (R = false) := hd.symm
        clear hd hno hm
        (first | have t1 : decide (y < 97) = true := decide_eq_true (by omega) | have t1 : decide (y < 97) = false := decide_eq_false (by omega))
        (first | have t2 : decide (122 < y) = true := decide_eq_true (by omega) | have t2 : decide (122 < y) = false := decide_eq_false (by omega))
        (first | have t3 : decide (y < 48) = true := decide_eq_true (by omega) | have t3 : decide (y < 48) = false := decide_eq_false (by omega))
        (first | have t4 : decide (57 < y) = true := decide_eq_true (by omega) | have t4 : decide (57 < y) = false := decide_eq_false (by omega))
        have t5 : (y != 45) = true := bne_iff_ne.2 (by omega)
        have t6 : (y != 95) = true := bne_iff_ne.2 (by omega)
        have t7 : (y != 46) = true := bne_iff_ne.2 (by omega)
        go_wp2
        go_ret
        exact ⟨by rw [hv.out]; rfl, (by repeat (first | with_reducible exact Gr.refl _ | with_reducible assumption | refine Gr.setCell ?_ (by first | omega | (simp; done) | (simp; omega)) _ | refine Gr.alloc ?_ _ | refine Gr.drew ?_ | refine Gr.drewN ?_ _ | refine Gr.trans ?_ (by with_reducible assumption)))⟩
      · have hv : Hid (R = false) := hd.symm
        clear hd hno hm
        (first | have t1 : decide (y < 97) = true := decide_eq_true (by omega) | have t1 : decide (y < 97) = false := decide_eq_false (by omega))
        (first | have t2 : decide (122 < y) = true := decide_eq_true (by omega) | have t2 : decide (122 < y) = false := decide_eq_false (by omega))
        (first | have t3 : decide (y < 48) = true := decide_eq_true (by omega) | have t3 : decide (y < 48) = false := decide_eq_false (by omega))
        (first | have t4 : decide (57 < y) = true := decide_eq_true (by omega) | have t4 : decide (57 < y) = false := decide_eq_false (by omega))
        have t5 : (y != 45) = true := bne_iff_ne.2 (by omega)
        have t6 : (y != 95) = true := bne_iff_ne.2 (by omega)
        have t7 : (y != 46) = true := bne_iff_ne.2 (by omega)
        go_wp2
        go_ret
        exact ⟨by rw [hv.out]; rfl, (by repeat (first | with_reducible exact Gr.refl _ | with_reducible assumption | refine Gr.setCell ?_ (by first | omega | (simp; done) | (simp; omega)) _ | refine Gr.alloc ?_ _ | refine Gr.drew ?_ | refine Gr.drewN ?_ _ | refine Gr.trans ?_ (by with_reducible assumption)))⟩
    · have q3 : decide (kk < s.size) = false := decide_eq_false c1
      have hv : Hid (R = true) := by
        have hd := hno.out
        rw [ba_drop_end s kk (by omega)] at hd
        exact hd.symm
      clear hno
      go_wp2
      go_ret
      exact ⟨by rw [hv.out]; rfl, (by repeat (first | with_reducible exact Gr.refl _ | with_reducible assumption | refine Gr.setCell ?_ (by first | omega | (simp; done) | (simp; omega)) _ | refine Gr.alloc ?_ _ | refine Gr.drew ?_ | refine Gr.drewN ?_ _ | refine Gr.trans ?_ (by with_reducible assumption)))⟩

set_option maxHeartbeats 2000000 in
theorem rvalidName_any (s : ByteArray) (w : World) (hs : s.size ≤ 140737488355328) :
    Calls Tryz.prog 84 #[.string s] w fun e w' => e = .returned (.bool (nmB s)) ∧ Gr w w' := by
  obtain ⟨R, hR⟩ : ∃ R, s.data.toList.all nmc = R := ⟨_, rfl⟩
  unfold nmB
  rw [hR]
  have HS : Hid ((s.data.toList.drop 0).all nmc = R) := hR
  clear hR
  go_enter Tryz.func84, Tryz.ntmps84
  go_wp2
  go_loop [3, 4] (fun k _ => ∃ kk : Nat, kk ≤ s.size ∧ k = .int .i64 kk ∧ Hid ((s.data.toList.drop kk).all nmc = R)) (fun k _ => s.size - (RowKit.intOf k).toNat)
  case atStart => exact ⟨0, Nat.zero_le _, rfl, HS⟩
  case round =>
    obtain ⟨kk, h3, rfl, hno⟩ := hrel
    clear HS
    by_cases c1 : kk < s.size
    · have q3 : decide (kk < s.size) = true := decide_eq_true c1
      have hd := hno.out
      rw [ba_drop s kk c1, List.all_cons] at hd
      obtain ⟨y, hy⟩ : ∃ y : Int, (s[kk].toNat : Int) = y := ⟨_, rfl⟩
      have hyb : 0 ≤ y := by omega
      have hm : nmc s[kk] = nmY y := nmc_eq hy
      rw [hm] at hd
      rcases nm_cases y with ⟨g, c⟩ | ⟨g, c⟩ | ⟨g, c⟩ | ⟨g, c⟩ | ⟨g, c⟩ | ⟨g, c⟩ | ⟨g, c⟩ | ⟨g, c⟩ | ⟨g, c⟩ <;> rw [g] at hd
      · have hv : Hid ((s.data.toList.drop (kk + 1)).all nmc = R) := hd
        clear hd hno hm
        (first | have t1 : decide (y < 97) = true := decide_eq_true (by omega) | have t1 : decide (y < 97) = false := decide_eq_false (by omega))
        (first | have t2 : decide (122 < y) = true := decide_eq_true (by omega) | have t2 : decide (122 < y) = false := decide_eq_false (by omega))
        (first | have t3 : decide (y < 48) = true := decide_eq_true (by omega) | have t3 : decide (y < 48) = false := decide_eq_false (by omega))
        (first | have t4 : decide (57 < y) = true := decide_eq_true (by omega) | have t4 : decide (57 < y) = false := decide_eq_false (by omega))
        (first | have t5 : (y != 45) = true := bne_iff_ne.2 (by omega) | have t5 : (y != 45) = false := by rw [show y = 45 by omega]; rfl)
        (first | have t6 : (y != 95) = true := bne_iff_ne.2 (by omega) | have t6 : (y != 95) = false := by rw [show y = 95 by omega]; rfl)
        (first | have t7 : (y != 46) = true := bne_iff_ne.2 (by omega) | have t7 : (y != 46) = false := by rw [show y = 46 by omega]; rfl)
        go_wp2
        exact ⟨⟨kk + 1, by omega, by go_num, hv⟩, by simp [RowKit.intOf]; omega⟩
      · have hv : Hid ((s.data.toList.drop (kk + 1)).all nmc = R) := hd
        clear hd hno hm
        (first | have t1 : decide (y < 97) = true := decide_eq_true (by omega) | have t1 : decide (y < 97) = false := decide_eq_false (by omega))
        (first | have t2 : decide (122 < y) = true := decide_eq_true (by omega) | have t2 : decide (122 < y) = false := decide_eq_false (by omega))
        (first | have t3 : decide (y < 48) = true := decide_eq_true (by omega) | have t3 : decide (y < 48) = false := decide_eq_false (by omega))
        (first | have t4 : decide (57 < y) = true := decide_eq_true (by omega) | have t4 : decide (57 < y) = false := decide_eq_false (by omega))
        (first | have t5 : (y != 45) = true := bne_iff_ne.2 (by omega) | have t5 : (y != 45) = false := by rw [show y = 45 by omega]; rfl)
        (first | have t6 : (y != 95) = true := bne_iff_ne.2 (by omega) | have t6 : (y != 95) = false := by rw [show y = 95 by omega]; rfl)
        (first | have t7 : (y != 46) = true := bne_iff_ne.2 (by omega) | have t7 : (y != 46) = false := by rw [show y = 46 by omega]; rfl)
        go_wp2
        exact ⟨⟨kk + 1, by omega, by go_num, hv⟩, by simp [RowKit.intOf]; omega⟩
      · have hv : Hid ((s.data.toList.drop (kk + 1)).all nmc = R) := hd
        clear hd hno hm
        (first | have t1 : decide (y < 97) = true := decide_eq_true (by omega) | have t1 : decide (y < 97) = false := decide_eq_false (by omega))
        (first | have t2 : decide (122 < y) = true := decide_eq_true (by omega) | have t2 : decide (122 < y) = false := decide_eq_false (by omega))
        (first | have t3 : decide (y < 48) = true := decide_eq_true (by omega) | have t3 : decide (y < 48) = false := decide_eq_false (by omega))
        (first | have t4 : decide (57 < y) = true := decide_eq_true (by omega) | have t4 : decide (57 < y) = false := decide_eq_false (by omega))
        (first | have t5 : (y != 45) = true := bne_iff_ne.2 (by omega) | have t5 : (y != 45) = false := by rw [show y = 45 by omega]; rfl)
        (first | have t6 : (y != 95) = true := bne_iff_ne.2 (by omega) | have t6 : (y != 95) = false := by rw [show y = 95 by omega]; rfl)
        (first | have t7 : (y != 46) = true := bne_iff_ne.2 (by omega) | have t7 : (y != 46) = false := by rw [show y = 46 by omega]; rfl)
        go_wp2
        exact ⟨⟨kk + 1, by omega, by go_num, hv⟩, by simp [RowKit.intOf]; omega⟩
      · have hv : Hid ((s.data.toList.drop (kk + 1)).all nmc = R) := hd
        clear hd hno hm
        (first | have t1 : decide (y < 97) = true := decide_eq_true (by omega) | have t1 : decide (y < 97) = false := decide_eq_false (by omega))
        (first | have t2 : decide (122 < y) = true := decide_eq_true (by omega) | have t2 : decide (122 < y) = false := decide_eq_false (by omega))
        (first | have t3 : decide (y < 48) = true := decide_eq_true (by omega) | have t3 : decide (y < 48) = false := decide_eq_false (by omega))
        (first | have t4 : decide (57 < y) = true := decide_eq_true (by omega) | have t4 : decide (57 < y) = false := decide_eq_false (by omega))
        (first | have t5 : (y != 45) = true := bne_iff_ne.2 (by omega) | have t5 : (y != 45) = false := by rw [show y = 45 by omega]; rfl)
        (first | have t6 : (y != 95) = true := bne_iff_ne.2 (by omega) | have t6 : (y != 95) = false := by rw [show y = 95 by omega]; rfl)
        (first | have t7 : (y != 46) = true := bne_iff_ne.2 (by omega) | have t7 : (y != 46) = false := by rw [show y = 46 by omega]; rfl)
        go_wp2
        exact ⟨⟨kk + 1, by omega, by go_num, hv⟩, by simp [RowKit.intOf]; omega⟩
      · have hv : Hid ((s.data.toList.drop (kk + 1)).all nmc = R) := hd
        clear hd hno hm
        (first | have t1 : decide (y < 97) = true := decide_eq_true (by omega) | have t1 : decide (y < 97) = false := decide_eq_false (by omega))
        (first | have t2 : decide (122 < y) = true := decide_eq_true (by omega) | have t2 : decide (122 < y) = false := decide_eq_false (by omega))
        (first | have t3 : decide (y < 48) = true := decide_eq_true (by omega) | have t3 : decide (y < 48) = false := decide_eq_false (by omega))
        (first | have t4 : decide (57 < y) = true := decide_eq_true (by omega) | have t4 : decide (57 < y) = false := decide_eq_false (by omega))
        (first | have t5 : (y != 45) = true := bne_iff_ne.2 (by omega) | have t5 : (y != 45) = false := by rw [show y = 45 by omega]; rfl)
        (first | have t6 : (y != 95) = true := bne_iff_ne.2 (by omega) | have t6 : (y != 95) = false := by rw [show y = 95 by omega]; rfl)
        (first | have t7 : (y != 46) = true := bne_iff_ne.2 (by omega) | have t7 : (y != 46) = false := by rw [show y = 46 by omega]; rfl)
        go_wp2
        exact ⟨⟨kk + 1, by omega, by go_num, hv⟩, by simp [RowKit.intOf]; omega⟩
      · have hv : Hid (R = false) := hd.symm
        clear hd hno hm
        (first | have t1 : decide (y < 97) = true := decide_eq_true (by omega) | have t1 : decide (y < 97) = false := decide_eq_false (by omega))
        (first | have t2 : decide (122 < y) = true := decide_eq_true (by omega) | have t2 : decide (122 < y) = false := decide_eq_false (by omega))
        (first | have t3 : decide (y < 48) = true := decide_eq_true (by omega) | have t3 : decide (y < 48) = false := decide_eq_false (by omega))
        (first | have t4 : decide (57 < y) = true := decide_eq_true (by omega) | have t4 : decide (57 < y) = false := decide_eq_false (by omega))
        have t5 : (y != 45) = true := bne_iff_ne.2 (by omega)
        have t6 : (y != 95) = true := bne_iff_ne.2 (by omega)
        have t7 : (y != 46) = true := bne_iff_ne.2 (by omega)
        go_wp2
        go_ret
        exact ⟨by rw [hv.out]; simp, (by repeat (first | with_reducible exact Gr.refl _ | with_reducible assumption | refine Gr.setCell ?_ (by first | omega | (simp; done) | (simp; omega)) _ | refine Gr.alloc ?_ _ | refine Gr.drew ?_ | refine Gr.drewN ?_ _ | refine Gr.trans ?_ (by with_reducible assumption)))⟩
      · have hv : Hid (R = false) := hd.symm
        clear hd hno hm
        (first | have t1 : decide (y < 97) = true := decide_eq_true (by omega) | have t1 : decide (y < 97) = false := decide_eq_false (by omega))
        (first | have t2 : decide (122 < y) = true := decide_eq_true (by omega) | have t2 : decide (122 < y) = false := decide_eq_false (by omega))
        (first | have t3 : decide (y < 48) = true := decide_eq_true (by omega) | have t3 : decide (y < 48) = false := decide_eq_false (by omega))
        (first | have t4 : decide (57 < y) = true := decide_eq_true (by omega) | have t4 : decide (57 < y) = false := decide_eq_false (by omega))
        have t5 : (y != 45) = true := bne_iff_ne.2 (by omega)
        have t6 : (y != 95) = true := bne_iff_ne.2 (by omega)
        have t7 : (y != 46) = true := bne_iff_ne.2 (by omega)
        go_wp2
        go_ret
        exact ⟨by rw [hv.out]; simp, (by repeat (first | with_reducible exact Gr.refl _ | with_reducible assumption | refine Gr.setCell ?_ (by first | omega | (simp; done) | (simp; omega)) _ | refine Gr.alloc ?_ _ | refine Gr.drew ?_ | refine Gr.drewN ?_ _ | refine Gr.trans ?_ (by with_reducible assumption)))⟩
      · have hv : Hid (R = false) := hd.symm
        clear hd hno hm
        (first | have t1 : decide (y < 97) = true := decide_eq_true (by omega) | have t1 : decide (y < 97) = false := decide_eq_false (by omega))
        (first | have t2 : decide (122 < y) = true := decide_eq_true (by omega) | have t2 : decide (122 < y) = false := decide_eq_false (by omega))
        (first | have t3 : decide (y < 48) = true := decide_eq_true (by omega) | have t3 : decide (y < 48) = false := decide_eq_false (by omega))
        (first | have t4 : decide (57 < y) = true := decide_eq_true (by omega) | have t4 : decide (57 < y) = false := decide_eq_false (by omega))
        have t5 : (y != 45) = true := bne_iff_ne.2 (by omega)
        have t6 : (y != 95) = true := bne_iff_ne.2 (by omega)
        have t7 : (y != 46) = true := bne_iff_ne.2 (by omega)
        go_wp2
        go_ret
        exact ⟨by rw [hv.out]; simp, (by repeat (first | with_reducible exact Gr.refl _ | with_reducible assumption | refine Gr.setCell ?_ (by first | omega | (simp; done) | (simp; omega)) _ | refine Gr.alloc ?_ _ | refine Gr.drew ?_ | refine Gr.drewN ?_ _ | refine Gr.trans ?_ (by with_reducible assumption)))⟩
      · have hv : Hid (R = false) := hd.symm
        clear hd hno hm
        (first | have t1 : decide (y < 97) = true := decide_eq_true (by omega) | have t1 : decide (y < 97) = false := decide_eq_false (by omega))
        (first | have t2 : decide (122 < y) = true := decide_eq_true (by omega) | have t2 : decide (122 < y) = false := decide_eq_false (by omega))
        (first | have t3 : decide (y < 48) = true := decide_eq_true (by omega) | have t3 : decide (y < 48) = false := decide_eq_false (by omega))
        (first | have t4 : decide (57 < y) = true := decide_eq_true (by omega) | have t4 : decide (57 < y) = false := decide_eq_false (by omega))
        have t5 : (y != 45) = true := bne_iff_ne.2 (by omega)
        have t6 : (y != 95) = true := bne_iff_ne.2 (by omega)
        have t7 : (y != 46) = true := bne_iff_ne.2 (by omega)
        go_wp2
        go_ret
        exact ⟨by rw [hv.out]; simp, (by repeat (first | with_reducible exact Gr.refl _ | with_reducible assumption | refine Gr.setCell ?_ (by first | omega | (simp; done) | (simp; omega)) _ | refine Gr.alloc ?_ _ | refine Gr.drew ?_ | refine Gr.drewN ?_ _ | refine Gr.trans ?_ (by with_reducible assumption)))⟩
    · have q3 : decide (kk < s.size) = false := decide_eq_false c1
      have hv : Hid (R = true) := by
        have hd := hno.out
        rw [ba_drop_end s kk (by omega)] at hd
        exact hd.symm
      clear hno
      by_cases h1 : s.size < 1
      · have q1 : decide (1 ≤ (s.size : Int)) = false := decide_eq_false (by omega)
        go_wp2
        go_ret
        exact ⟨by (try rw [hv.out]); simp <;> omega, (by repeat (first | with_reducible exact Gr.refl _ | with_reducible assumption | refine Gr.setCell ?_ (by first | omega | (simp; done) | (simp; omega)) _ | refine Gr.alloc ?_ _ | refine Gr.drew ?_ | refine Gr.drewN ?_ _ | refine Gr.trans ?_ (by with_reducible assumption)))⟩
      · have q1 : decide (1 ≤ (s.size : Int)) = true := decide_eq_true (by omega)
        by_cases h2 : s.size ≤ 32
        · have q2 : decide ((s.size : Int) ≤ 32) = true := decide_eq_true (by omega)
          go_wp2
          go_ret
          exact ⟨by (try rw [hv.out]); simp <;> omega, (by repeat (first | with_reducible exact Gr.refl _ | with_reducible assumption | refine Gr.setCell ?_ (by first | omega | (simp; done) | (simp; omega)) _ | refine Gr.alloc ?_ _ | refine Gr.drew ?_ | refine Gr.drewN ?_ _ | refine Gr.trans ?_ (by with_reducible assumption)))⟩
        · have q2 : decide ((s.size : Int) ≤ 32) = false := decide_eq_false (by omega)
          go_wp2
          go_ret
          exact ⟨by (try rw [hv.out]); simp <;> omega, (by repeat (first | with_reducible exact Gr.refl _ | with_reducible assumption | refine Gr.setCell ?_ (by first | omega | (simp; done) | (simp; omega)) _ | refine Gr.alloc ?_ _ | refine Gr.drew ?_ | refine Gr.drewN ?_ _ | refine Gr.trans ?_ (by with_reducible assumption)))⟩
end Go.Proofs.YtgbiodnfpbhjiaaGreatDoor
