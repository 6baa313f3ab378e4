
/-
  MulDiv on both sides, and the walk of the law RationalMulDiv.
  Conditions: the arguments are integers of their kinds.
-/
import Derived.Test.YtckmebfgianeoaaDoorWalkM
namespace Go.Proofs.YtckmebfgianeoaaDoor
open Go.RowKit
set_option linter.unusedSimpArgs false
set_option linter.unusedVariables false

/-- the three results out of quotient and rest of the magnitude -/
theorem md_of {v d : Int} (hd : 1 ≤ d) : 
    (9223372036854775808 < mg v / d → mdQ v d = 0 ∧ mdR v d = 0 ∧ mdE v d = 2) ∧
    (0 ≤ v → mg v / d = 9223372036854775808 → mdQ v d = 0 ∧ mdR v d = 0 ∧ mdE v d = 2) ∧
    (0 ≤ v → mg v / d ≤ 9223372036854775807 → mdQ v d = mg v / d ∧ mdR v d = mg v % d ∧ mdE v d = 0) ∧
    (v ≤ 0 → mg v % d = 0 → mg v / d ≤ 9223372036854775808 → mdQ v d = -(mg v / d) ∧ mdR v d = 0 ∧ mdE v d = 0) ∧
    (v ≤ 0 → 0 < mg v % d → mg v / d + 1 ≤ 9223372036854775808 → mdQ v d = -(mg v / d + 1) ∧ mdR v d = d - mg v % d ∧ mdE v d = 0) ∧
    (v ≤ 0 → 0 < mg v % d → mg v / d + 1 = 9223372036854775809 → mdQ v d = 0 ∧ mdR v d = 0 ∧ mdE v d = 2) := by
  have hr0 : 0 ≤ mg v % d := Int.emod_nonneg _ (by omega)
  have hq0 : 0 ≤ mg v / d := Int.ediv_nonneg (mg_nonneg v) (by omega)
  have bad : (v / d < -9223372036854775808 ∨ 9223372036854775807 < v / d) → mdQ v d = 0 ∧ mdR v d = 0 ∧ mdE v d = 2 := fun h => by
    have hP : mdP v d = false := decide_eq_false (by omega)
    unfold mdQ mdR mdE
    rw [hP]; simp [hd]
  have good : -9223372036854775808 ≤ v / d → v / d ≤ 9223372036854775807 → mdQ v d = v / d ∧ mdR v d = v % d ∧ mdE v d = 0 := fun h h' => by
    have hP : mdP v d = true := decide_eq_true ⟨h, h'⟩
    unfold mdQ mdR mdE
    rw [hP]; simp [hd]
  refine ⟨fun h => bad ?_, fun h h1 => bad ?_, fun h h1 => ?_, fun h h1 h2 => ?_, fun h h1 h2 => ?_, fun h h1 h2 => bad ?_⟩
  · rcases (show 0 ≤ v ∨ v ≤ 0 by omega) with c | c
    · have := (md_pos (d := d) c).1; omega
    · have := md_neg c hd
      rcases (show mg v % d = 0 ∨ 0 < mg v % d by omega) with e | e
      · have := (this.1 e).1; omega
      · have := (this.2 e).1; omega
  · have := (md_pos (d := d) h).1; omega
  · have e := md_pos (d := d) h
    rw [← e.1, ← e.2]
    exact good (by omega) (by omega)
  · have e := (md_neg h hd).1 h1
    have := good (by omega) (by omega)
    rw [e.1, e.2] at this
    exact this
  · have e := (md_neg h hd).2 h1
    have := good (by omega) (by omega)
    rw [e.1, e.2] at this
    exact ⟨this.1.trans (by omega), this.2⟩
  · have := ((md_neg h hd).2 h1).1; omega

theorem rmulDiv_any (x n d : Int) (w : World) (hx : I64 x) (hn : I64 n) (hd : I64 d) :
    Calls Tryd.prog 79 #[.int .i64 x, .int .i64 n, .int .i64 d] w fun e w' => e = .returned (.tuple #[.int .i64 (mdQ (x * n) d), .int .i64 (mdR (x * n) d), .int .i64 (mdE (x * n) d)]) ∧ Gr w w' := by
  by_cases h1 : 1 ≤ d
  · have hdd : 1 ≤ d ∧ d ≤ 9223372036854775807 := ⟨h1, hd.2⟩
    have HT := fun w => times_w x n w hx hn
    have hf := fit_mg (i64_mul_fit x n hx hn).fit
    obtain ⟨m1, m2, m3, m4, m5, m6⟩ := md_of (v := x * n) h1
    have hr0 : 0 ≤ mg (x * n) % d := Int.emod_nonneg _ (by omega)
    have hr1 : mg (x * n) % d < d := Int.emod_lt_of_pos _ (by omega)
    have hq0 : 0 ≤ mg (x * n) / d := Int.ediv_nonneg (mg_nonneg _) (by omega)
    by_cases ho : wH (mg (x * n)) < d
    · have HO := fun w => over_yes (mg (x * n)) d w (mg_nonneg _) hf ho (by omega)
      have hq1 := (wH_mg_lt (mg_nonneg (x * n)) h1).1 ho
      by_cases hb : 9223372036854775808 < mg (x * n) / d
      · obtain ⟨e1, e2, e3⟩ := m1 hb
        rw [e1, e2, e3]
        rcases (show (0 ≤ x ∧ 0 ≤ n) ∨ (0 ≤ x ∧ n < 0) ∨ (x < 0 ∧ 0 ≤ n) ∨ (x < 0 ∧ n < 0) by omega) with ⟨a, b⟩ | ⟨a, b⟩ | ⟨a, b⟩ | ⟨a, b⟩
        · exact rmulDiv_pp_over x n d _ _ _ w hx hn hdd a b hb hq1 ⟨hr0, hr1⟩ HT HO
        · exact rmulDiv_pn_over x n d _ _ _ w hx hn hdd a b hb hq1 ⟨hr0, hr1⟩ HT HO
        · exact rmulDiv_np_over x n d _ _ _ w hx hn hdd a b hb hq1 ⟨hr0, hr1⟩ HT HO
        · exact rmulDiv_nn_over x n d _ _ _ w hx hn hdd a b hb hq1 ⟨hr0, hr1⟩ HT HO
      · have pos : 0 ≤ x * n → (∃ Z B, (∀ w, Calls Tryd.prog 99 #[.bool false, .int .u64 (mg (x * n) / d)] w fun e w' => e = .returned (.tuple #[.int .i64 Z, .bool B]) ∧ w = w') ∧ mdQ (x * n) d = (if B then Z else 0) ∧ mdR (x * n) d = (if B then mg (x * n) % d else 0) ∧ mdE (x * n) d = (if B then 0 else 2)) := fun hv => by
          by_cases hc : mg (x * n) / d ≤ 9223372036854775807
          · exact ⟨_, true, fun w => signed_pos _ w hq0 hc, m3 hv hc⟩
          · have e : mg (x * n) / d = 9223372036854775808 := by omega
            refine ⟨-9223372036854775808, false, fun w => ?_, m2 hv e⟩
            rw [e]
            exact signed_pos_no w
        have neg : x * n ≤ 0 → (∃ Q R Z B, ((mg (x * n) % d = 0 ∧ Q = mg (x * n) / d ∧ R = mg (x * n) % d) ∨ (0 < mg (x * n) % d ∧ Q = mg (x * n) / d + 1 ∧ R = d - mg (x * n) % d)) ∧ (∀ w, Calls Tryd.prog 99 #[.bool true, .int .u64 Q] w fun e w' => e = .returned (.tuple #[.int .i64 Z, .bool B]) ∧ w = w') ∧ mdQ (x * n) d = (if B then Z else 0) ∧ mdR (x * n) d = (if B then R else 0) ∧ mdE (x * n) d = (if B then 0 else 2)) := fun hv => by
          rcases (show mg (x * n) % d = 0 ∨ 0 < mg (x * n) % d by omega) with hr | hr
          · obtain ⟨e1, e2, e3⟩ := m4 hv hr (by omega)
            exact ⟨_, _, _, true, .inl ⟨hr, rfl, rfl⟩, fun w => signed_neg _ w hq0 (by omega), e1, e2.trans hr.symm, e3⟩
          · by_cases hc : mg (x * n) / d + 1 ≤ 9223372036854775808
            · exact ⟨_, _, _, true, .inr ⟨hr, rfl, rfl⟩, fun w => signed_neg _ w (by omega) hc, m5 hv hr hc⟩
            · have e : mg (x * n) / d + 1 = 9223372036854775809 := by omega
              refine ⟨_, d - mg (x * n) % d, 9223372036854775807, false, .inr ⟨hr, rfl, rfl⟩, fun w => ?_, m6 hv hr e⟩
              rw [e]
              exact signed_neg_no w
        clear m1 m2 m3 m4 m5 m6
        rcases (show (0 ≤ x ∧ 0 ≤ n) ∨ (0 ≤ x ∧ n < 0) ∨ (x < 0 ∧ 0 ≤ n) ∨ (x < 0 ∧ n < 0) by omega) with ⟨a, b⟩ | ⟨a, b⟩ | ⟨a, b⟩ | ⟨a, b⟩
        · obtain ⟨Z, B, HS, e1, e2, e3⟩ := pos (Int.mul_nonneg a b)
          rw [e1, e2, e3]
          exact rmulDiv_pp_in x n d _ _ _ _ _ Z B w hx hn hdd a b (by omega) hq0 ⟨hr0, hr1⟩ ⟨rfl, rfl⟩ HT HO HS
        · obtain ⟨Q, R, Z, B, hQ, HS, e1, e2, e3⟩ := neg (Int.mul_nonpos_of_nonneg_of_nonpos a (by omega))
          rw [e1, e2, e3]
          refine rmulDiv_pn_in x n d _ _ _ Q R Z B w hx hn hdd a b (by omega) hq0 ⟨hr0, hr1⟩ ?_ HT HO HS
          rcases hQ with ⟨c1, c2, c3⟩ | ⟨c1, c2, c3⟩
          · exact .inl ⟨c1, c2, c3⟩
          · exact .inr ⟨c1, c2, c3⟩
        · obtain ⟨Q, R, Z, B, hQ, HS, e1, e2, e3⟩ := neg (Int.mul_nonpos_of_nonpos_of_nonneg (by omega) b)
          rw [e1, e2, e3]
          refine rmulDiv_np_in x n d _ _ _ Q R Z B w hx hn hdd a b (by omega) hq0 ⟨hr0, hr1⟩ ?_ HT HO HS
          rcases hQ with ⟨c1, c2, c3⟩ | ⟨c1, c2, c3⟩
          · exact .inl ⟨c1, c2, c3⟩
          · exact .inr ⟨c1, c2, c3⟩
        · obtain ⟨Z, B, HS, e1, e2, e3⟩ := pos (Int.mul_nonneg_of_nonpos_of_nonpos (by omega) (by omega))
          rw [e1, e2, e3]
          exact rmulDiv_nn_in x n d _ _ _ _ _ Z B w hx hn hdd a b (by omega) hq0 ⟨hr0, hr1⟩ ⟨rfl, rfl⟩ HT HO HS
    · have HO := fun w => over_no (mg (x * n)) d w ho
      have hb : 9223372036854775808 < mg (x * n) / d := by
        have := mt (wH_mg_lt (mg_nonneg (x * n)) h1).2 ho
        omega
      obtain ⟨e1, e2, e3⟩ := m1 hb
      rw [e1, e2, e3]
      rcases (show (0 ≤ x ∧ 0 ≤ n) ∨ (0 ≤ x ∧ n < 0) ∨ (x < 0 ∧ 0 ≤ n) ∨ (x < 0 ∧ n < 0) by omega) with ⟨a, b⟩ | ⟨a, b⟩ | ⟨a, b⟩ | ⟨a, b⟩
      · exact rmulDiv_pp_no x n d _ w hx hn hdd a b HT HO
      · exact rmulDiv_pn_no x n d _ w hx hn hdd a b HT HO
      · exact rmulDiv_np_no x n d _ w hx hn hdd a b HT HO
      · exact rmulDiv_nn_no x n d _ w hx hn hdd a b HT HO
  · have e1 : mdQ (x * n) d = 0 := if_neg (fun h => h1 h.1)
    have e2 : mdR (x * n) d = 0 := if_neg (fun h => h1 h.1)
    have e3 : mdE (x * n) d = 1 := if_neg h1
    rw [e1, e2, e3]
    exact rmulDiv_arg x n d w h1

end Go.Proofs.YtckmebfgianeoaaDoor
