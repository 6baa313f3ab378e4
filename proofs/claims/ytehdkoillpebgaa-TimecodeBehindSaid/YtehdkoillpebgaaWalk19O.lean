/-
  Contracts of lowest and Time of the reference.
  Conditions: the arguments are integers of their kinds, not too large.
-/
import Derived.Test.YtehdkoillpebgaaWalk19N
namespace Go.Proofs.Ytehdkoillpebgaa
open Go.RowKit
set_option linter.unusedSimpArgs false
set_option linter.unusedVariables false

theorem time_any (h m s f b : Int) (d : Bool) (w : World) (h1 : 0 ≤ h ∧ h < 24) (h2 : 0 ≤ m ∧ m < 60) (h3 : 0 ≤ s ∧ s < 60) (h4 : 0 ≤ f ∧ f < b) (hb : 24 ≤ b ∧ b ≤ 60) :
    Calls Try.prog 46 #[.agg #[.int .i64 h, .int .i64 m, .int .i64 s, .int .i64 f, .int .i64 b, .bool d]] w fun e w' => e = .returned (.int .i64 (((h * 60 + m) * 60 + s) * b + f)) ∧ Gr w w' := by
  obtain ⟨t, ht⟩ : ∃ t, (h * 60 + m) * 60 + s = t := ⟨_, rfl⟩
  have t1 : 0 ≤ t ∧ t < 86400 := by omega
  have t2 : 0 ≤ t * b := Int.mul_nonneg t1.1 (by omega)
  have t3 : t * b ≤ 86400 * b := Int.mul_le_mul_of_nonneg_right (by omega) (by omega)
  have t4 : 0 ≤ ((h * 60 + m) * 60 + s) * b := by rw [ht]; exact t2
  have t5 : ((h * 60 + m) * 60 + s) * b ≤ 5184000 := by rw [ht]; omega
  clear ht t1 t2 t3
  go_enter Try.func46, Try.ntmps46
  go_wp2
  simp [bodyPost, results, Try.results46, go_sem]
  exact (by repeat (first | refine Gr.setCell ?_ (by first | omega | (simp; done) | (simp; omega)) _ | refine Gr.alloc ?_ _ | refine Gr.drew ?_ | refine Gr.drewN ?_ _ | with_reducible assumption | with_reducible exact Gr.refl _ | refine Gr.trans ?_ (by with_reducible assumption)))

theorem gc_quot_small {n d : Int} (hd : 0 < d) : 1 ≤ gc n d ∧ gc n d ≤ d ∧ (0 ≤ d / gc n d ∧ d / gc n d ≤ d) ∧ n.tdiv (gc n d) = n / gc n d ∧ (n / gc n d) * gc n d = n ∧ (d / gc n d) * gc n d = d := by
  have g1 := gc_pos_right n d hd
  have g2 := gc_le_right n d hd
  have e1 := gc_dvd_left n d
  have e2 := gc_dvd_right n d
  refine ⟨by omega, g2, ⟨Int.ediv_nonneg (by omega) (by omega), Int.ediv_le_self _ (by omega)⟩, Int.tdiv_eq_ediv_of_dvd e1, Int.ediv_mul_cancel e1, Int.ediv_mul_cancel e2⟩
theorem quot_bounds {n g B : Int} (hg : 1 ≤ g) (h1 : -B ≤ n) (h2 : n ≤ B) (hB : 0 ≤ B) : -B ≤ n / g ∧ n / g ≤ B := by
  constructor
  · apply Int.le_ediv_of_mul_le (by omega)
    have : -B * g ≤ -B * 1 := Int.mul_le_mul_of_nonpos_left (by omega) (by omega)
    omega
  · apply Int.le_of_lt_add_one
    apply Int.ediv_lt_of_lt_mul (by omega)
    have : (B + 1) * 1 ≤ (B + 1) * g := Int.mul_le_mul_of_nonneg_left (by omega) (by omega)
    omega

set_option maxHeartbeats 1000000 in
theorem lowest_any (n d : Int) (w : World) (n1 : -4611686018427387904 ≤ n) (n2 : n ≤ 4611686018427387904) (d1 : 0 < d) (d2 : d ≤ 4611686018427387904) :
    Calls Try.prog 45 #[.int .i64 n, .int .i64 d] w fun e w' => e = .returned (.agg #[.int .i64 (n / gc n d), .int .i64 (d / gc n d)]) ∧ Gr w w' := by
  obtain ⟨g1, g2, ⟨q1, q2⟩, q3, q4, q5⟩ := gc_quot_small (n := n) d1
  have qb := quot_bounds g1 n1 n2 (by omega)
  obtain ⟨qb1, qb2⟩ := qb
  obtain ⟨A, hA⟩ : ∃ A, n / gc n d = A := ⟨_, rfl⟩
  obtain ⟨B, hB⟩ : ∃ B, d / gc n d = B := ⟨_, rfl⟩
  rw [hA] at qb1 qb2 q3
  rw [hB] at q1 q2
  rw [hA, hB]
  obtain ⟨g, hg⟩ : ∃ g, gc n d = g := ⟨_, rfl⟩
  have HM := Lib.hid (gc_mg n d)
  rw [hg] at hA hB HM g1 g2 q3
  have HZ : Hid (n = 0 → g = d) := fun h => by rw [← hg, h]; unfold gc; simp; omega
  have HP : Hid (0 ≤ n → n / g = A) := fun _ => hA
  have m0 := mg_nonneg n
  have m1 : mg n ≤ 4611686018427387904 := by unfold mg; split <;> omega
  have HA := Lib.hid hA
  have HB := Lib.hid hB
  have HQ := Lib.hid q3
  clear hg hA hB q3 q4 q5
  by_cases hn : n < 0
  all_goals
    first | have hmg : Hid (mg n = -n) := mg_neg hn | have hmg : Hid (mg n = n) := mg_pos (by omega)
    go_enter Try.func45, Try.ntmps45
    go_wp2
    go_loopw [5, 6] (fun a b wr => ∃ p q : Int, 0 ≤ p ∧ p ≤ 4611686018427387904 ∧ 0 ≤ q ∧ q ≤ 4611686018427387904 ∧ a = .int .i64 p ∧ b = .int .i64 q ∧ Hid (gc p q = g) ∧ ∃ k, wr = (w.alloc (.cells #[.int .i64 0, .int .i64 0] 23)).drewN k) (fun _ b _ => (intOf b).toNat)
    case atStart => exact ⟨_, d, by omega, by omega, by omega, by omega, rfl, rfl, (by rw [← hmg.out]; exact HM.out), 0, rfl⟩
    case round =>
      obtain ⟨p, q, hp, hp2, hq, hq2, rfl, rfl, hg, k, rfl⟩ := hrel
      by_cases h0 : q = 0
      · subst h0
        obtain rfl : g = p := by rw [← hg.out, gc_zero _ hp]
        clear hg hmg
        by_cases hz : n = 0
        · subst hz
          first
            | (exfalso; omega)
            | (obtain rfl : g = d := HZ.out rfl
               have a0 : A = 0 := by rw [← HA.out]; simp
               have b0 : B = 1 := by rw [← HB.out]; exact Int.ediv_self (by omega)
               have b1 : g / g = 1 := Int.ediv_self (by omega)
               subst a0
               subst b0
               go_wp2
               go_region
               go_wp2
               simp [bodyPost, results, Try.results45, go_sem]
               exact (by repeat (first | refine Gr.setCell ?_ (by first | omega | (simp; done) | (simp; omega)) _ | refine Gr.alloc ?_ _ | refine Gr.drew ?_ | refine Gr.drewN ?_ _ | with_reducible assumption | with_reducible exact Gr.refl _ | refine Gr.trans ?_ (by with_reducible assumption))))
        · have hz' : (n == 0) = false := by simpa using hz
          (try have hq' := HP.out (by omega))
          have hQ := HQ.out
          have hB := HB.out
          go_wp2
          go_region
          go_wp2
          simp [bodyPost, results, Try.results45, go_sem]
          exact (by repeat (first | refine Gr.setCell ?_ (by first | omega | (simp; done) | (simp; omega)) _ | refine Gr.alloc ?_ _ | refine Gr.drew ?_ | refine Gr.drewN ?_ _ | with_reducible assumption | with_reducible exact Gr.refl _ | refine Gr.trans ?_ (by with_reducible assumption)))
      · have hb : (q != 0) = true := by simpa using h0
        have hm1 : 0 ≤ p % q := Int.emod_nonneg _ h0
        have hm2 : p % q < q := Int.emod_lt_of_pos _ (by omega)
        go_wp2
        go_region
        go_wp2
        go_roundw
        case rel => exact ⟨q, p % q, hq, by omega, hm1, by omega, rfl, rfl, (gc_step p q hp hq).trans hg.out, k + 1, rfl⟩
        case measure => simp [intOf]; omega
end Go.Proofs.Ytehdkoillpebgaa
