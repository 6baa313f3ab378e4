/-
  Contracts of MulDiv of package rational and of its reference, and the walk of the law RationalMulDiv.
  Conditions: the arguments are integers of their kinds.
-/
import Derived.Test.YtclfiaemjdflbaaWalkF
import Derived.Test.YtclfiaemjdflbaaWalkJ
namespace Go.Proofs.Ytclfiaemjdflbaa
open Go.RowKit
set_option linter.unusedSimpArgs false
set_option linter.unusedVariables false

/-- the quotient is an int64 -/
def mdP (v d : Int) : Bool := decide (-9223372036854775808 ≤ v / d ∧ v / d ≤ 9223372036854775807)
def mdQ (v d : Int) : Int := if 1 ≤ d ∧ mdP v d = true then v / d else 0
def mdR (v d : Int) : Int := if 1 ≤ d ∧ mdP v d = true then v % d else 0
def mdE (v d : Int) : Int := if 1 ≤ d then (if mdP v d = true then 0 else 2) else 1
theorem i64_mul_fit (x y : Int) (hx : I64 x) (hy : I64 y) : Fit6 (x * y) := fit6_mul x y hx.1 hx.2 hy.1 hy.2

theorem mulDiv_any (x n d : Int) (w : World) (hx : I64 x) (hn : I64 n) (hd : I64 d) :
    Calls Try.prog 21 #[.int .i64 x, .int .i64 n, .int .i64 d] w fun e w' => e = .returned (.tuple #[.int .i64 (mdQ (x * n) d), .int .i64 (mdR (x * n) d), .int .i64 (mdE (x * n) d)]) ∧ Gr w w' := by
  have HP := Lib.hid (fun w => product_any x n w hx.1 hx.2 hn.1 hn.2)
  have hf := (i64_mul_fit x n hx hn).fit
  obtain ⟨d1, d2⟩ := hd
  by_cases h1 : 1 ≤ d
  · cases hP : mdP (x * n) d
    · have HD := Lib.hid (fun w => divide_any (x * n) d w hf h1 (by omega) false hP)
      have e1 : mdQ (x * n) d = 0 := if_neg (by rw [hP]; simp)
      have e2 : mdR (x * n) d = 0 := if_neg (by rw [hP]; simp)
      have e3 : mdE (x * n) d = 2 := by unfold mdE; rw [if_pos h1, hP]; rfl
      rw [e1, e2, e3]
      clear hP e1 e2 e3
      simp only [if_false, Bool.false_eq_true] at HD
      generalize x * n = v at *
      go_enter Try.func21, Try.ntmps21
      go_wp2_with (first
        | (go_at_call 41; refine (HP.out _).mono ?_; rintro e w1 ⟨rfl, hg1⟩; obtain ⟨hc1, hf1⟩ := hg1.cells; have hz1 := hg1.size; (try simp at hz1); (try have hl1_0_0 : w.heap.size < w1.heap.size := by omega); (try have hm1_0_0 : w.heap.size ≤ w1.heap.size := by omega); (try have hl1_0_1 : w.heap.size + 1 < w1.heap.size := by omega); (try have hl1_0_2 : w.heap.size + 2 < w1.heap.size := by omega))
        | (go_at_call 42; refine (HD.out _).mono ?_; rintro e w2 ⟨rfl, hg2⟩; obtain ⟨hc2, hf2⟩ := hg2.cells; have hz2 := hg2.size; (try simp at hz2); (try have hl2_0_0 : w.heap.size < w2.heap.size := by omega); (try have hm2_0_0 : w.heap.size ≤ w2.heap.size := by omega); (try have hl2_0_1 : w.heap.size + 1 < w2.heap.size := by omega); (try have hl2_0_2 : w.heap.size + 2 < w2.heap.size := by omega); (try have hl2_1_0 : w1.heap.size < w2.heap.size := by omega); (try have hm2_1_0 : w1.heap.size ≤ w2.heap.size := by omega); (try have hl2_1_1 : w1.heap.size + 1 < w2.heap.size := by omega); (try have hl2_1_2 : w1.heap.size + 2 < w2.heap.size := by omega)))
      go_ret3
      exact ⟨rfl, (by repeat (first | refine Gr.setCell ?_ (by first | omega | (simp; done) | (simp; omega)) _ | refine Gr.alloc ?_ _ | refine Gr.drew ?_ | refine Gr.drewN ?_ _ | with_reducible assumption | with_reducible exact Gr.refl _ | refine Gr.trans ?_ (by with_reducible assumption)))⟩
    · have HD := Lib.hid (fun w => divide_any (x * n) d w hf h1 (by omega) true hP)
      have e1 : mdQ (x * n) d = x * n / d := if_pos ⟨h1, hP⟩
      have e2 : mdR (x * n) d = x * n % d := if_pos ⟨h1, hP⟩
      have e3 : mdE (x * n) d = 0 := by unfold mdE; rw [if_pos h1, hP]; rfl
      have r1 : 0 ≤ x * n % d := Int.emod_nonneg _ (by omega)
      have r2 : x * n % d < d := Int.emod_lt_of_pos _ (by omega)
      rw [e1, e2, e3]
      clear hP e1 e2 e3
      simp only [if_true] at HD
      generalize x * n = v at *
      generalize v / d = q at *
      generalize v % d = r at *
      go_enter Try.func21, Try.ntmps21
      go_wp2_with (first
        | (go_at_call 41; refine (HP.out _).mono ?_; rintro e w1 ⟨rfl, hg1⟩; obtain ⟨hc1, hf1⟩ := hg1.cells; have hz1 := hg1.size; (try simp at hz1); (try have hl1_0_0 : w.heap.size < w1.heap.size := by omega); (try have hm1_0_0 : w.heap.size ≤ w1.heap.size := by omega); (try have hl1_0_1 : w.heap.size + 1 < w1.heap.size := by omega); (try have hl1_0_2 : w.heap.size + 2 < w1.heap.size := by omega))
        | (go_at_call 42; refine (HD.out _).mono ?_; rintro e w2 ⟨rfl, hg2⟩; obtain ⟨hc2, hf2⟩ := hg2.cells; have hz2 := hg2.size; (try simp at hz2); (try have hl2_0_0 : w.heap.size < w2.heap.size := by omega); (try have hm2_0_0 : w.heap.size ≤ w2.heap.size := by omega); (try have hl2_0_1 : w.heap.size + 1 < w2.heap.size := by omega); (try have hl2_0_2 : w.heap.size + 2 < w2.heap.size := by omega); (try have hl2_1_0 : w1.heap.size < w2.heap.size := by omega); (try have hm2_1_0 : w1.heap.size ≤ w2.heap.size := by omega); (try have hl2_1_1 : w1.heap.size + 1 < w2.heap.size := by omega); (try have hl2_1_2 : w1.heap.size + 2 < w2.heap.size := by omega)))
      go_ret3
      exact ⟨rfl, (by repeat (first | refine Gr.setCell ?_ (by first | omega | (simp; done) | (simp; omega)) _ | refine Gr.alloc ?_ _ | refine Gr.drew ?_ | refine Gr.drewN ?_ _ | with_reducible assumption | with_reducible exact Gr.refl _ | refine Gr.trans ?_ (by with_reducible assumption)))⟩
  · have e1 : mdQ (x * n) d = 0 := if_neg (fun h => h1 h.1)
    have e2 : mdR (x * n) d = 0 := if_neg (fun h => h1 h.1)
    have e3 : mdE (x * n) d = 1 := if_neg h1
    rw [e1, e2, e3]
    clear e1 e2 e3
    go_enter Try.func21, Try.ntmps21
    go_wp2
    go_ret3
    exact ⟨rfl, (by repeat (first | refine Gr.setCell ?_ (by first | omega | (simp; done) | (simp; omega)) _ | refine Gr.alloc ?_ _ | refine Gr.drew ?_ | refine Gr.drewN ?_ _ | with_reducible assumption | with_reducible exact Gr.refl _ | refine Gr.trans ?_ (by with_reducible assumption)))⟩
/-- the words of a product of magnitudes -/
theorem times_w (x n : Int) (w : World) (hx : I64 x) (hn : I64 n) :
    Calls Try.prog 44 #[.int .u64 (mg x), .int .u64 (mg n)] w fun e w' => e = .returned (.agg #[.int .u64 (wH (mg (x * n))), .int .u64 (wL (mg (x * n)))]) ∧ Gr w w' := by
  have := times_any (mg x) (mg n) w (mg_nonneg x) (mg_lt x hx.1 hx.2) (mg_nonneg n) (mg_lt n hn.1 hn.2)
  rw [← mg_mul] at this
  unfold wH wL
  rw [mg_pos (mg_nonneg (x * n))]
  exact this
theorem fit_mg {v : Int} (h : Fit v) : Fit (mg v) := by unfold Fit at *; rw [mg_pos (mg_nonneg v)]; exact h
theorem wH_mg_lt {u d : Int} (h0 : 0 ≤ u) (hd : 1 ≤ d) : wH u < d ↔ u / d < 18446744073709551616 := by
  unfold wH
  rw [mg_pos h0]
  constructor
  · intro h
    apply Int.ediv_lt_of_lt_mul (by omega)
    have : u < d * 18446744073709551616 := Int.lt_mul_of_ediv_lt (by omega) h
    rw [Int.mul_comm]; exact this
  · intro h
    apply Int.ediv_lt_of_lt_mul (by omega)
    have := Int.lt_mul_of_ediv_lt (by omega) h
    rw [Int.mul_comm]; exact this
/-- the quotient of v by that of its magnitude -/
theorem md_pos {v d : Int} (h : 0 ≤ v) : v / d = mg v / d ∧ v % d = mg v % d := by rw [mg_pos h]; exact ⟨rfl, rfl⟩
theorem md_neg {v d : Int} (h : v ≤ 0) (hd : 1 ≤ d) : (mg v % d = 0 → v / d = -(mg v / d) ∧ v % d = 0) ∧ (0 < mg v % d → v / d = -(mg v / d) - 1 ∧ v % d = d - mg v % d) := by
  have e : mg v = -v := by unfold mg; split <;> omega
  have := ediv_neg_num (k := -v) (d := d) (by omega)
  rw [Int.neg_neg] at this
  rw [e]
  exact this

theorem signed_pos (q : Int) (w : World) (h0 : 0 ≤ q) (h1 : q ≤ 9223372036854775807) :
    Calls Try.prog 45 #[.bool false, .int .u64 q] w fun e w' => e = .returned (.tuple #[.int .i64 q, .bool true]) ∧ w = w' := by
  go_enter Try.func45, Try.ntmps45
  go_wp2
  go_ret2
  exact ⟨rfl, rfl⟩
theorem signed_neg (q : Int) (w : World) (h0 : 0 ≤ q) (h1 : q ≤ 9223372036854775808) :
    Calls Try.prog 45 #[.bool true, .int .u64 q] w fun e w' => e = .returned (.tuple #[.int .i64 (-q), .bool true]) ∧ w = w' := by
  rcases (show q = 9223372036854775808 ∨ q ≤ 9223372036854775807 by omega) with rfl | h2
  · go_enter Try.func45, Try.ntmps45
    go_wp2
    go_ret2
    exact ⟨rfl, rfl⟩
  · have c : (q == 9223372036854775808) = false := by simp; omega
    clear h1
    go_enter Try.func45, Try.ntmps45
    go_wp2
    go_ret2
    exact ⟨rfl, rfl⟩
theorem wrap_a : wrap64 9223372036854775808 = -9223372036854775808 := by decide +kernel
theorem wrap_b : wrap64 (-wrap64 9223372036854775809) = 9223372036854775807 := by decide +kernel
theorem signed_pos_no (w : World) :
    Calls Try.prog 45 #[.bool false, .int .u64 9223372036854775808] w fun e w' => e = .returned (.tuple #[.int .i64 (-9223372036854775808), .bool false]) ∧ w = w' := by
  go_enter Try.func45, Try.ntmps45
  go_wp2
  go_ret2
  first | exact ⟨rfl, rfl⟩ | (rw [← wrap_a]; exact ⟨rfl, rfl⟩)
theorem signed_neg_no (w : World) :
    Calls Try.prog 45 #[.bool true, .int .u64 9223372036854775809] w fun e w' => e = .returned (.tuple #[.int .i64 9223372036854775807, .bool false]) ∧ w = w' := by
  go_enter Try.func45, Try.ntmps45
  go_wp2
  go_ret2
  first | exact ⟨rfl, rfl⟩ | (rw [← wrap_b]; exact ⟨rfl, rfl⟩)
end Go.Proofs.Ytclfiaemjdflbaa
