/-
  Contracts of Base of package timecode and of its reference.
  Conditions: the arguments are integers of their kinds.
-/
import Derived.Test.YtehdkoillpebgaaWalk19A
import Derived.Test.YtehdkoillpebgaaMath19B
namespace Go.Proofs.Ytehdkoillpebgaa
open Go.RowKit
set_option linter.unusedSimpArgs false
set_option linter.unusedVariables false

/-- the bases before place k of the list -/
def before (k : Nat) (b : Int) : Prop := (b = 24 ∧ 0 < k) ∨ (b = 25 ∧ 1 < k) ∨ (b = 30 ∧ 2 < k) ∨ (b = 48 ∧ 3 < k) ∨ (b = 50 ∧ 4 < k) ∨ (b = 60 ∧ 5 < k)

set_option maxRecDepth 100000 in
set_option maxHeartbeats 4000000 in
theorem base_any (n d : Int) (w : World) (hn : I64 n) (hd : I64 d) :
    Calls Try.prog 17 #[.agg #[.int .i64 n, .int .i64 d]] w fun e w' => e = .returned (.tuple #[.int .i64 (bsV n d), .int .i64 (bsE n d)]) ∧ Gr w w' := by
  have i0 : ∀ w, (Instr.index 55 (.agg #[.int .i64 24, .int .i64 25, .int .i64 30, .int .i64 48, .int .i64 50, .int .i64 60]) (.int .i64 0)).run Try.prog w = .ok (.int .i64 24) w := fun _ => by kernel_rfl
  have i1 : ∀ w, (Instr.index 55 (.agg #[.int .i64 24, .int .i64 25, .int .i64 30, .int .i64 48, .int .i64 50, .int .i64 60]) (.int .i64 1)).run Try.prog w = .ok (.int .i64 25) w := fun _ => by kernel_rfl
  have i2 : ∀ w, (Instr.index 55 (.agg #[.int .i64 24, .int .i64 25, .int .i64 30, .int .i64 48, .int .i64 50, .int .i64 60]) (.int .i64 2)).run Try.prog w = .ok (.int .i64 30) w := fun _ => by kernel_rfl
  have i3 : ∀ w, (Instr.index 55 (.agg #[.int .i64 24, .int .i64 25, .int .i64 30, .int .i64 48, .int .i64 50, .int .i64 60]) (.int .i64 3)).run Try.prog w = .ok (.int .i64 48) w := fun _ => by kernel_rfl
  have i4 : ∀ w, (Instr.index 55 (.agg #[.int .i64 24, .int .i64 25, .int .i64 30, .int .i64 48, .int .i64 50, .int .i64 60]) (.int .i64 4)).run Try.prog w = .ok (.int .i64 50) w := fun _ => by kernel_rfl
  have i5 : ∀ w, (Instr.index 55 (.agg #[.int .i64 24, .int .i64 25, .int .i64 30, .int .i64 48, .int .i64 50, .int .i64 60]) (.int .i64 5)).run Try.prog w = .ok (.int .i64 60) w := fun _ => by kernel_rfl
  go_enter Try.func17, Try.ntmps17
  go_wp2
  go_loopw [9] (fun i wr => ∃ k : Nat, k ≤ 6 ∧ i = .int .i64 k ∧ Hid (∀ b, before k b → ¬ mt n d b) ∧ Gr (w.alloc (.cells #[.int .i64 n, .int .i64 d] 23)) wr) (fun i _ => 6 - (intOf i).toNat)
  case atStart => exact ⟨0, by omega, rfl, (fun b hb => by unfold before at hb; omega : ∀ b, before 0 b → ¬ mt n d b), Gr.refl _⟩
  case round =>
    obtain ⟨k, hk, rfl, hno, hg⟩ := hrel
    obtain ⟨hc, hf⟩ := hg.cells
    have hz := hg.size
    simp at hz
    have hl : w.heap.size < wr.heap.size := by omega
    have hR : k = 6 → bsV n d = 0 ∧ bsE n d = 1 := fun h6 => by
      subst h6
      exact bs_none (fun b hb => hno.out b (by rcases isB_cases hb with rfl | rfl | rfl | rfl | rfl | rfl <;> unfold before <;> omega))
    rcases (show k = 0 ∨ k = 1 ∨ k = 2 ∨ k = 3 ∨ k = 4 ∨ k = 5 ∨ k = 6 by omega) with rfl | rfl | rfl | rfl | rfl | rfl | rfl
    · clear hR
      by_cases hm : mt n d 24
      · clear hno
        rcases hm with ⟨rfl, rfl⟩ | ⟨rfl, rfl⟩
        · have hv : bsV 24 1 = 24 ∧ bsE 24 1 = 0 := bs_match (b := 24) (by decide) (.inl ⟨rfl, rfl⟩)
          go_wp2
          simp [bodyPost, results, Try.results17, go_sem, hc, hf]
          exact ⟨⟨hv.1.symm, hv.2.symm⟩, (by repeat (first | refine Gr.setCell ?_ (by first | omega | (simp; done) | (simp; omega)) _ | refine Gr.alloc ?_ _ | refine Gr.drew ?_ | refine Gr.drewN ?_ _ | with_reducible assumption | with_reducible exact Gr.refl _ | refine Gr.trans ?_ (by with_reducible assumption)))⟩
        · have hv : bsV 24000 1001 = 24 ∧ bsE 24000 1001 = 0 := bs_match (b := 24) (by decide) (.inr ⟨rfl, rfl⟩)
          go_wp2
          simp [bodyPost, results, Try.results17, go_sem, hc, hf]
          exact ⟨⟨hv.1.symm, hv.2.symm⟩, (by repeat (first | refine Gr.setCell ?_ (by first | omega | (simp; done) | (simp; omega)) _ | refine Gr.alloc ?_ _ | refine Gr.drew ?_ | refine Gr.drewN ?_ _ | with_reducible assumption | with_reducible exact Gr.refl _ | refine Gr.trans ?_ (by with_reducible assumption)))⟩
      · have q1 : ¬ (n = 24 ∧ d = 1) := fun x => hm (.inl x)
        have q2 : ¬ (n = 24000 ∧ d = 1001) := fun x => hm (.inr (by omega))
        have HN : Hid (∀ b, before (0 + 1) b → ¬ mt n d b) := (fun b hb => (Decidable.em (b = 24)).elim (fun e => by rw [e]; exact hm) (fun e => hno.out b (by unfold before at hb ⊢; omega)) : ∀ b, before (0 + 1) b → ¬ mt n d b)
        clear hno hm
        rcases (show (n = 24 ∧ ¬ d = 1) ∨ (n = 24000 ∧ ¬ d = 1001) ∨ (¬ n = 24 ∧ ¬ n = 24000) by omega) with ⟨rfl, h2⟩ | ⟨rfl, h2⟩ | ⟨h1, h2⟩
        all_goals
          clear q1 q2
          go_wp2
          all_goals go_round
          case rel => exact ⟨0 + 1, by omega, rfl, HN, (by repeat (first | refine Gr.setCell ?_ (by first | omega | (simp; done) | (simp; omega)) _ | refine Gr.alloc ?_ _ | refine Gr.drew ?_ | refine Gr.drewN ?_ _ | with_reducible assumption | with_reducible exact Gr.refl _ | refine Gr.trans ?_ (by with_reducible assumption)))⟩
          case measure => simp [intOf]
    · clear hR
      by_cases hm : mt n d 25
      · clear hno
        rcases hm with ⟨rfl, rfl⟩ | ⟨rfl, rfl⟩
        · have hv : bsV 25 1 = 25 ∧ bsE 25 1 = 0 := bs_match (b := 25) (by decide) (.inl ⟨rfl, rfl⟩)
          go_wp2
          simp [bodyPost, results, Try.results17, go_sem, hc, hf]
          exact ⟨⟨hv.1.symm, hv.2.symm⟩, (by repeat (first | refine Gr.setCell ?_ (by first | omega | (simp; done) | (simp; omega)) _ | refine Gr.alloc ?_ _ | refine Gr.drew ?_ | refine Gr.drewN ?_ _ | with_reducible assumption | with_reducible exact Gr.refl _ | refine Gr.trans ?_ (by with_reducible assumption)))⟩
        · have hv : bsV 25000 1001 = 25 ∧ bsE 25000 1001 = 0 := bs_match (b := 25) (by decide) (.inr ⟨rfl, rfl⟩)
          go_wp2
          simp [bodyPost, results, Try.results17, go_sem, hc, hf]
          exact ⟨⟨hv.1.symm, hv.2.symm⟩, (by repeat (first | refine Gr.setCell ?_ (by first | omega | (simp; done) | (simp; omega)) _ | refine Gr.alloc ?_ _ | refine Gr.drew ?_ | refine Gr.drewN ?_ _ | with_reducible assumption | with_reducible exact Gr.refl _ | refine Gr.trans ?_ (by with_reducible assumption)))⟩
      · have q1 : ¬ (n = 25 ∧ d = 1) := fun x => hm (.inl x)
        have q2 : ¬ (n = 25000 ∧ d = 1001) := fun x => hm (.inr (by omega))
        have HN : Hid (∀ b, before (1 + 1) b → ¬ mt n d b) := (fun b hb => (Decidable.em (b = 25)).elim (fun e => by rw [e]; exact hm) (fun e => hno.out b (by unfold before at hb ⊢; omega)) : ∀ b, before (1 + 1) b → ¬ mt n d b)
        clear hno hm
        rcases (show (n = 25 ∧ ¬ d = 1) ∨ (n = 25000 ∧ ¬ d = 1001) ∨ (¬ n = 25 ∧ ¬ n = 25000) by omega) with ⟨rfl, h2⟩ | ⟨rfl, h2⟩ | ⟨h1, h2⟩
        all_goals
          clear q1 q2
          go_wp2
          all_goals go_round
          case rel => exact ⟨1 + 1, by omega, rfl, HN, (by repeat (first | refine Gr.setCell ?_ (by first | omega | (simp; done) | (simp; omega)) _ | refine Gr.alloc ?_ _ | refine Gr.drew ?_ | refine Gr.drewN ?_ _ | with_reducible assumption | with_reducible exact Gr.refl _ | refine Gr.trans ?_ (by with_reducible assumption)))⟩
          case measure => simp [intOf]
    · clear hR
      by_cases hm : mt n d 30
      · clear hno
        rcases hm with ⟨rfl, rfl⟩ | ⟨rfl, rfl⟩
        · have hv : bsV 30 1 = 30 ∧ bsE 30 1 = 0 := bs_match (b := 30) (by decide) (.inl ⟨rfl, rfl⟩)
          go_wp2
          simp [bodyPost, results, Try.results17, go_sem, hc, hf]
          exact ⟨⟨hv.1.symm, hv.2.symm⟩, (by repeat (first | refine Gr.setCell ?_ (by first | omega | (simp; done) | (simp; omega)) _ | refine Gr.alloc ?_ _ | refine Gr.drew ?_ | refine Gr.drewN ?_ _ | with_reducible assumption | with_reducible exact Gr.refl _ | refine Gr.trans ?_ (by with_reducible assumption)))⟩
        · have hv : bsV 30000 1001 = 30 ∧ bsE 30000 1001 = 0 := bs_match (b := 30) (by decide) (.inr ⟨rfl, rfl⟩)
          go_wp2
          simp [bodyPost, results, Try.results17, go_sem, hc, hf]
          exact ⟨⟨hv.1.symm, hv.2.symm⟩, (by repeat (first | refine Gr.setCell ?_ (by first | omega | (simp; done) | (simp; omega)) _ | refine Gr.alloc ?_ _ | refine Gr.drew ?_ | refine Gr.drewN ?_ _ | with_reducible assumption | with_reducible exact Gr.refl _ | refine Gr.trans ?_ (by with_reducible assumption)))⟩
      · have q1 : ¬ (n = 30 ∧ d = 1) := fun x => hm (.inl x)
        have q2 : ¬ (n = 30000 ∧ d = 1001) := fun x => hm (.inr (by omega))
        have HN : Hid (∀ b, before (2 + 1) b → ¬ mt n d b) := (fun b hb => (Decidable.em (b = 30)).elim (fun e => by rw [e]; exact hm) (fun e => hno.out b (by unfold before at hb ⊢; omega)) : ∀ b, before (2 + 1) b → ¬ mt n d b)
        clear hno hm
        rcases (show (n = 30 ∧ ¬ d = 1) ∨ (n = 30000 ∧ ¬ d = 1001) ∨ (¬ n = 30 ∧ ¬ n = 30000) by omega) with ⟨rfl, h2⟩ | ⟨rfl, h2⟩ | ⟨h1, h2⟩
        all_goals
          clear q1 q2
          go_wp2
          all_goals go_round
          case rel => exact ⟨2 + 1, by omega, rfl, HN, (by repeat (first | refine Gr.setCell ?_ (by first | omega | (simp; done) | (simp; omega)) _ | refine Gr.alloc ?_ _ | refine Gr.drew ?_ | refine Gr.drewN ?_ _ | with_reducible assumption | with_reducible exact Gr.refl _ | refine Gr.trans ?_ (by with_reducible assumption)))⟩
          case measure => simp [intOf]
    · clear hR
      by_cases hm : mt n d 48
      · clear hno
        rcases hm with ⟨rfl, rfl⟩ | ⟨rfl, rfl⟩
        · have hv : bsV 48 1 = 48 ∧ bsE 48 1 = 0 := bs_match (b := 48) (by decide) (.inl ⟨rfl, rfl⟩)
          go_wp2
          simp [bodyPost, results, Try.results17, go_sem, hc, hf]
          exact ⟨⟨hv.1.symm, hv.2.symm⟩, (by repeat (first | refine Gr.setCell ?_ (by first | omega | (simp; done) | (simp; omega)) _ | refine Gr.alloc ?_ _ | refine Gr.drew ?_ | refine Gr.drewN ?_ _ | with_reducible assumption | with_reducible exact Gr.refl _ | refine Gr.trans ?_ (by with_reducible assumption)))⟩
        · have hv : bsV 48000 1001 = 48 ∧ bsE 48000 1001 = 0 := bs_match (b := 48) (by decide) (.inr ⟨rfl, rfl⟩)
          go_wp2
          simp [bodyPost, results, Try.results17, go_sem, hc, hf]
          exact ⟨⟨hv.1.symm, hv.2.symm⟩, (by repeat (first | refine Gr.setCell ?_ (by first | omega | (simp; done) | (simp; omega)) _ | refine Gr.alloc ?_ _ | refine Gr.drew ?_ | refine Gr.drewN ?_ _ | with_reducible assumption | with_reducible exact Gr.refl _ | refine Gr.trans ?_ (by with_reducible assumption)))⟩
      · have q1 : ¬ (n = 48 ∧ d = 1) := fun x => hm (.inl x)
        have q2 : ¬ (n = 48000 ∧ d = 1001) := fun x => hm (.inr (by omega))
        have HN : Hid (∀ b, before (3 + 1) b → ¬ mt n d b) := (fun b hb => (Decidable.em (b = 48)).elim (fun e => by rw [e]; exact hm) (fun e => hno.out b (by unfold before at hb ⊢; omega)) : ∀ b, before (3 + 1) b → ¬ mt n d b)
        clear hno hm
        rcases (show (n = 48 ∧ ¬ d = 1) ∨ (n = 48000 ∧ ¬ d = 1001) ∨ (¬ n = 48 ∧ ¬ n = 48000) by omega) with ⟨rfl, h2⟩ | ⟨rfl, h2⟩ | ⟨h1, h2⟩
        all_goals
          clear q1 q2
          go_wp2
          all_goals go_round
          case rel => exact ⟨3 + 1, by omega, rfl, HN, (by repeat (first | refine Gr.setCell ?_ (by first | omega | (simp; done) | (simp; omega)) _ | refine Gr.alloc ?_ _ | refine Gr.drew ?_ | refine Gr.drewN ?_ _ | with_reducible assumption | with_reducible exact Gr.refl _ | refine Gr.trans ?_ (by with_reducible assumption)))⟩
          case measure => simp [intOf]
    · clear hR
      by_cases hm : mt n d 50
      · clear hno
        rcases hm with ⟨rfl, rfl⟩ | ⟨rfl, rfl⟩
        · have hv : bsV 50 1 = 50 ∧ bsE 50 1 = 0 := bs_match (b := 50) (by decide) (.inl ⟨rfl, rfl⟩)
          go_wp2
          simp [bodyPost, results, Try.results17, go_sem, hc, hf]
          exact ⟨⟨hv.1.symm, hv.2.symm⟩, (by repeat (first | refine Gr.setCell ?_ (by first | omega | (simp; done) | (simp; omega)) _ | refine Gr.alloc ?_ _ | refine Gr.drew ?_ | refine Gr.drewN ?_ _ | with_reducible assumption | with_reducible exact Gr.refl _ | refine Gr.trans ?_ (by with_reducible assumption)))⟩
        · have hv : bsV 50000 1001 = 50 ∧ bsE 50000 1001 = 0 := bs_match (b := 50) (by decide) (.inr ⟨rfl, rfl⟩)
          go_wp2
          simp [bodyPost, results, Try.results17, go_sem, hc, hf]
          exact ⟨⟨hv.1.symm, hv.2.symm⟩, (by repeat (first | refine Gr.setCell ?_ (by first | omega | (simp; done) | (simp; omega)) _ | refine Gr.alloc ?_ _ | refine Gr.drew ?_ | refine Gr.drewN ?_ _ | with_reducible assumption | with_reducible exact Gr.refl _ | refine Gr.trans ?_ (by with_reducible assumption)))⟩
      · have q1 : ¬ (n = 50 ∧ d = 1) := fun x => hm (.inl x)
        have q2 : ¬ (n = 50000 ∧ d = 1001) := fun x => hm (.inr (by omega))
        have HN : Hid (∀ b, before (4 + 1) b → ¬ mt n d b) := (fun b hb => (Decidable.em (b = 50)).elim (fun e => by rw [e]; exact hm) (fun e => hno.out b (by unfold before at hb ⊢; omega)) : ∀ b, before (4 + 1) b → ¬ mt n d b)
        clear hno hm
        rcases (show (n = 50 ∧ ¬ d = 1) ∨ (n = 50000 ∧ ¬ d = 1001) ∨ (¬ n = 50 ∧ ¬ n = 50000) by omega) with ⟨rfl, h2⟩ | ⟨rfl, h2⟩ | ⟨h1, h2⟩
        all_goals
          clear q1 q2
          go_wp2
          all_goals go_round
          case rel => exact ⟨4 + 1, by omega, rfl, HN, (by repeat (first | refine Gr.setCell ?_ (by first | omega | (simp; done) | (simp; omega)) _ | refine Gr.alloc ?_ _ | refine Gr.drew ?_ | refine Gr.drewN ?_ _ | with_reducible assumption | with_reducible exact Gr.refl _ | refine Gr.trans ?_ (by with_reducible assumption)))⟩
          case measure => simp [intOf]
    · clear hR
      by_cases hm : mt n d 60
      · clear hno
        rcases hm with ⟨rfl, rfl⟩ | ⟨rfl, rfl⟩
        · have hv : bsV 60 1 = 60 ∧ bsE 60 1 = 0 := bs_match (b := 60) (by decide) (.inl ⟨rfl, rfl⟩)
          go_wp2
          simp [bodyPost, results, Try.results17, go_sem, hc, hf]
          exact ⟨⟨hv.1.symm, hv.2.symm⟩, (by repeat (first | refine Gr.setCell ?_ (by first | omega | (simp; done) | (simp; omega)) _ | refine Gr.alloc ?_ _ | refine Gr.drew ?_ | refine Gr.drewN ?_ _ | with_reducible assumption | with_reducible exact Gr.refl _ | refine Gr.trans ?_ (by with_reducible assumption)))⟩
        · have hv : bsV 60000 1001 = 60 ∧ bsE 60000 1001 = 0 := bs_match (b := 60) (by decide) (.inr ⟨rfl, rfl⟩)
          go_wp2
          simp [bodyPost, results, Try.results17, go_sem, hc, hf]
          exact ⟨⟨hv.1.symm, hv.2.symm⟩, (by repeat (first | refine Gr.setCell ?_ (by first | omega | (simp; done) | (simp; omega)) _ | refine Gr.alloc ?_ _ | refine Gr.drew ?_ | refine Gr.drewN ?_ _ | with_reducible assumption | with_reducible exact Gr.refl _ | refine Gr.trans ?_ (by with_reducible assumption)))⟩
      · have q1 : ¬ (n = 60 ∧ d = 1) := fun x => hm (.inl x)
        have q2 : ¬ (n = 60000 ∧ d = 1001) := fun x => hm (.inr (by omega))
        have HN : Hid (∀ b, before (5 + 1) b → ¬ mt n d b) := (fun b hb => (Decidable.em (b = 60)).elim (fun e => by rw [e]; exact hm) (fun e => hno.out b (by unfold before at hb ⊢; omega)) : ∀ b, before (5 + 1) b → ¬ mt n d b)
        clear hno hm
        rcases (show (n = 60 ∧ ¬ d = 1) ∨ (n = 60000 ∧ ¬ d = 1001) ∨ (¬ n = 60 ∧ ¬ n = 60000) by omega) with ⟨rfl, h2⟩ | ⟨rfl, h2⟩ | ⟨h1, h2⟩
        all_goals
          clear q1 q2
          go_wp2
          all_goals go_round
          case rel => exact ⟨5 + 1, by omega, rfl, HN, (by repeat (first | refine Gr.setCell ?_ (by first | omega | (simp; done) | (simp; omega)) _ | refine Gr.alloc ?_ _ | refine Gr.drew ?_ | refine Gr.drewN ?_ _ | with_reducible assumption | with_reducible exact Gr.refl _ | refine Gr.trans ?_ (by with_reducible assumption)))⟩
          case measure => simp [intOf]
    · have hv := hR rfl
      go_wp2
      simp [bodyPost, results, Try.results17, go_sem, hc, hf]
      first | exact (by repeat (first | refine Gr.setCell ?_ (by first | omega | (simp; done) | (simp; omega)) _ | refine Gr.alloc ?_ _ | refine Gr.drew ?_ | refine Gr.drewN ?_ _ | with_reducible assumption | with_reducible exact Gr.refl _ | refine Gr.trans ?_ (by with_reducible assumption))) | exact ⟨⟨hv.1.symm, hv.2.symm⟩, (by repeat (first | refine Gr.setCell ?_ (by first | omega | (simp; done) | (simp; omega)) _ | refine Gr.alloc ?_ _ | refine Gr.drew ?_ | refine Gr.drewN ?_ _ | with_reducible assumption | with_reducible exact Gr.refl _ | refine Gr.trans ?_ (by with_reducible assumption)))⟩
end Go.Proofs.Ytehdkoillpebgaa
