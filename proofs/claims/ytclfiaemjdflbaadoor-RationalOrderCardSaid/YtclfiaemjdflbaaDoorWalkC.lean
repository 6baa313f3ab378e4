/-
  Contracts of the sums and differences of 128-bit integers.
  Conditions: the arguments are words.
-/
import Derived.Test.YtclfiaemjdflbaaDoorWalkA
import Derived.Test.YtclfiaemjdflbaaDoorMathB
import Derived.Shelf.Spec.BitsCarry
namespace Go.Proofs.YtclfiaemjdflbaaDoor
open Go.RowKit
set_option linter.unusedSimpArgs false
set_option linter.unusedVariables false

theorem add64 (x y c : Int) (hx : 0 ≤ x) (hx2 : x < 18446744073709551616) (hy : 0 ≤ y) (hy2 : y < 18446744073709551616) (hc0 : 0 ≤ c) (hc : c ≤ 1) (w : World) : (callFunc 35 #[.int .u64 x, .int .u64 y, .int .u64 c]).run Tryd.prog w =
    .ok (.value (.tuple #[.int .u64 ((x + y + c) % 18446744073709551616), .int .u64 ((x + y + c) / 18446744073709551616)])) w := by
  obtain ⟨x, rfl⟩ := Int.eq_ofNat_of_zero_le hx
  obtain ⟨y, rfl⟩ := Int.eq_ofNat_of_zero_le hy
  obtain ⟨c, rfl⟩ := Int.eq_ofNat_of_zero_le hc0
  rw [run_callFunc_extern Tryd.func35 (by kernel_rfl) (by kernel_rfl) (by kernel_rfl) (e := add64Entry) (by kernel_rfl), run_add64 x y c (by omega) (by omega) (by omega) (by omega)]
  simp only [Result.andThen]
  try (congr 5 <;> omega)
theorem sub64 (x y b : Int) (hx : 0 ≤ x) (hy : 0 ≤ y) (hy2 : y < 18446744073709551616) (hb0 : 0 ≤ b) (hb : b ≤ 1) (w : World) : (callFunc 36 #[.int .u64 x, .int .u64 y, .int .u64 b]).run Tryd.prog w =
    .ok (.value (.tuple #[.int .u64 ((x - y - b) % 18446744073709551616), .int .u64 (if x < y + b then 1 else 0)])) w := by
  obtain ⟨x, rfl⟩ := Int.eq_ofNat_of_zero_le hx
  obtain ⟨y, rfl⟩ := Int.eq_ofNat_of_zero_le hy
  obtain ⟨b, rfl⟩ := Int.eq_ofNat_of_zero_le hb0
  have e1 : (((x + 18446744073709551616 - y - b) % 18446744073709551616 : Nat) : Int) = ((x : Int) - y - b) % 18446744073709551616 := by omega
  have e2 : ((if x < y + b then 1 else 0 : Nat) : Int) = if (x : Int) < y + b then 1 else 0 := by split <;> split <;> omega
  rw [← e1, ← e2, run_callFunc_extern Tryd.func36 (by kernel_rfl) (by kernel_rfl) (by kernel_rfl) (e := sub64Entry) (by kernel_rfl), run_sub64 x y b (by omega)]
  rfl
theorem add64_0 (x y : Int) (hx : 0 ≤ x) (hx2 : x < 18446744073709551616) (hy : 0 ≤ y) (hy2 : y < 18446744073709551616) (w : World) : (callFunc 35 #[.int .u64 x, .int .u64 y, .int .u64 0]).run Tryd.prog w =
    .ok (.value (.tuple #[.int .u64 ((x + y) % 18446744073709551616), .int .u64 ((x + y) / 18446744073709551616)])) w := by
  simpa using add64 x y 0 hx hx2 hy hy2 (Int.le_refl 0) (by decide) w
theorem sub64_0 (x y : Int) (hx : 0 ≤ x) (hy : 0 ≤ y) (hy2 : y < 18446744073709551616) (w : World) : (callFunc 36 #[.int .u64 x, .int .u64 y, .int .u64 0]).run Tryd.prog w =
    .ok (.value (.tuple #[.int .u64 ((x - y) % 18446744073709551616), .int .u64 (bor x y)])) w := by
  have := sub64 x y 0 hx hy hy2 (Int.le_refl 0) (by decide) w
  simp only [Int.sub_zero, Int.add_zero] at this
  exact this

set_option maxHeartbeats 400000 in
theorem wplus_same (ah al bh bl : Int) (n : Bool) (w : World) (a1 : 0 ≤ ah) (a2 : ah < 18446744073709551616) (a3 : 0 ≤ al) (a4 : al < 18446744073709551616) (b1 : 0 ≤ bh) (b2 : bh < 18446744073709551616) (b3 : 0 ≤ bl) (b4 : bl < 18446744073709551616) :
    Calls Tryd.prog 20 #[.agg #[.bool n, .int .u64 ah, .int .u64 al], .agg #[.bool n, .int .u64 bh, .int .u64 bl]] w fun e w' =>
      e = .returned (.agg #[.bool n, .int .u64 ((ah + bh + (al + bl) / 18446744073709551616) % 18446744073709551616), .int .u64 ((al + bl) % 18446744073709551616)]) ∧ Gr w w' := by
  have k0 : 0 ≤ (al + bl) / 18446744073709551616 := by omega
  have k1 : (al + bl) / 18446744073709551616 ≤ 1 := by omega
  go_enter Tryd.func20, Tryd.ntmps20
  go_wp2_with (first | simp only [add64_0 al bl a3 a4 b3 b4] | simp only [add64 ah bh _ a1 a2 b1 b2 k0 k1])
  all_goals (simp [bodyPost, results, Tryd.results20, go_sem]; try exact (by repeat (first | refine Gr.setCell ?_ (by first | omega | (simp; done) | (simp; omega)) _ | refine Gr.alloc ?_ _ | refine Gr.drew ?_ | refine Gr.drewN ?_ _ | with_reducible assumption | with_reducible exact Gr.refl _ | refine Gr.trans ?_ (by with_reducible assumption))))

set_option maxHeartbeats 1000000 in
theorem wplus_ge (ah al bh bl : Int) (n m : Bool) (w : World) (hn : (n == m) = false) (a1 : 0 ≤ ah) (a2 : ah < 18446744073709551616) (a3 : 0 ≤ al) (a4 : al < 18446744073709551616) (b1 : 0 ≤ bh) (b2 : bh < 18446744073709551616) (b3 : 0 ≤ bl) (b4 : bl < 18446744073709551616) (h1 : ¬ ah < bh) (h2 : ah ≠ bh ∨ ¬ al < bl) :
    Calls Tryd.prog 20 #[.agg #[.bool n, .int .u64 ah, .int .u64 al], .agg #[.bool m, .int .u64 bh, .int .u64 bl]] w fun e w' =>
      e = .returned (.agg #[.bool (n && bits .or .u64 ((ah - bh - bor al bl) % 18446744073709551616) ((al - bl) % 18446744073709551616) != 0), .int .u64 ((ah - bh - bor al bl) % 18446744073709551616), .int .u64 ((al - bl) % 18446744073709551616)]) ∧ Gr w w' := by
  have k0 : 0 ≤ bor al bl := by unfold bor; split <;> omega
  have k1 : bor al bl ≤ 1 := by unfold bor; split <;> omega
  have k2 : ∀ w, (callFunc 36 #[.int .u64 ah, .int .u64 bh, .int .u64 (bor al bl)]).run Tryd.prog w = .ok (.value (.tuple #[.int .u64 ((ah - bh - bor al bl) % 18446744073709551616), .int .u64 (bor ah (bh + bor al bl))])) w := fun w => sub64 ah bh (bor al bl) a1 b1 b2 k0 k1 w
  by_cases h3 : ah = bh
  · have h4 : ¬ al < bl := by omega
    have h5 : (ah == bh) = true := by simpa using h3
    clear h3 h2
    go_enter Tryd.func20, Tryd.ntmps20
    go_wp2_with (first | simp only [sub64_0 al bl a3 b3 b4] | simp only [k2])
    all_goals (simp [bodyPost, results, Tryd.results20, go_sem]; exact (by repeat (first | refine Gr.setCell ?_ (by first | omega | (simp; done) | (simp; omega)) _ | refine Gr.alloc ?_ _ | refine Gr.drew ?_ | refine Gr.drewN ?_ _ | with_reducible assumption | with_reducible exact Gr.refl _ | refine Gr.trans ?_ (by with_reducible assumption))))
  · have h5 : (ah == bh) = false := by simpa using h3
    clear h3 h2
    go_enter Tryd.func20, Tryd.ntmps20
    go_wp2_with (first | simp only [sub64_0 al bl a3 b3 b4] | simp only [k2])
    all_goals (simp [bodyPost, results, Tryd.results20, go_sem]; exact (by repeat (first | refine Gr.setCell ?_ (by first | omega | (simp; done) | (simp; omega)) _ | refine Gr.alloc ?_ _ | refine Gr.drew ?_ | refine Gr.drewN ?_ _ | with_reducible assumption | with_reducible exact Gr.refl _ | refine Gr.trans ?_ (by with_reducible assumption))))

set_option maxHeartbeats 1000000 in
theorem wplus_lt (ah al bh bl : Int) (n m : Bool) (w : World) (hn : (n == m) = false) (a1 : 0 ≤ ah) (a2 : ah < 18446744073709551616) (a3 : 0 ≤ al) (a4 : al < 18446744073709551616) (b1 : 0 ≤ bh) (b2 : bh < 18446744073709551616) (b3 : 0 ≤ bl) (b4 : bl < 18446744073709551616) (h2 : ah < bh ∨ (ah = bh ∧ al < bl)) :
    Calls Tryd.prog 20 #[.agg #[.bool n, .int .u64 ah, .int .u64 al], .agg #[.bool m, .int .u64 bh, .int .u64 bl]] w fun e w' =>
      e = .returned (.agg #[.bool (m && bits .or .u64 ((bh - ah - bor bl al) % 18446744073709551616) ((bl - al) % 18446744073709551616) != 0), .int .u64 ((bh - ah - bor bl al) % 18446744073709551616), .int .u64 ((bl - al) % 18446744073709551616)]) ∧ Gr w w' := by
  have k0 : 0 ≤ bor bl al := by unfold bor; split <;> omega
  have k1 : bor bl al ≤ 1 := by unfold bor; split <;> omega
  have k2 : ∀ w, (callFunc 36 #[.int .u64 bh, .int .u64 ah, .int .u64 (bor bl al)]).run Tryd.prog w = .ok (.value (.tuple #[.int .u64 ((bh - ah - bor bl al) % 18446744073709551616), .int .u64 (bor bh (ah + bor bl al))])) w := fun w => sub64 bh ah (bor bl al) b1 a1 a2 k0 k1 w
  have hnm : m = !n := by cases n <;> cases m <;> simp at hn ⊢
  subst hnm
  clear hn
  rcases (show ah < bh ∨ (¬ ah < bh ∧ ah = bh ∧ al < bl) by omega) with h3 | ⟨h3, h4, h6⟩
  · clear h2
    cases n
    all_goals simp only [Bool.not_false, Bool.not_true]
    all_goals
      go_enter Tryd.func20, Tryd.ntmps20
      go_wp2_with (first | simp only [sub64_0 bl al b3 a3 a4] | simp only [k2])
      all_goals (simp [bodyPost, results, Tryd.results20, go_sem]; try exact (by repeat (first | refine Gr.setCell ?_ (by first | omega | (simp; done) | (simp; omega)) _ | refine Gr.alloc ?_ _ | refine Gr.drew ?_ | refine Gr.drewN ?_ _ | with_reducible assumption | with_reducible exact Gr.refl _ | refine Gr.trans ?_ (by with_reducible assumption))))
  · have h5 : (ah == bh) = true := by simpa using h4
    clear h2 h4
    cases n
    all_goals simp only [Bool.not_false, Bool.not_true]
    all_goals
      go_enter Tryd.func20, Tryd.ntmps20
      go_wp2_with (first | simp only [sub64_0 bl al b3 a3 a4] | simp only [k2])
      all_goals (simp [bodyPost, results, Tryd.results20, go_sem]; try exact (by repeat (first | refine Gr.setCell ?_ (by first | omega | (simp; done) | (simp; omega)) _ | refine Gr.alloc ?_ _ | refine Gr.drew ?_ | refine Gr.drewN ?_ _ | with_reducible assumption | with_reducible exact Gr.refl _ | refine Gr.trans ?_ (by with_reducible assumption))))

end Go.Proofs.YtclfiaemjdflbaaDoor
