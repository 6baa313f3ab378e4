/-
  Contracts of the small functions of package rational and of its reference: magnitude, greatest common divisor.
  Conditions: the arguments are integers of their kinds.
-/
import Derived.Test.YtclfiaemjdflbaaDoorChecked
import Derived.Test.YtclfiaemjdflbaaDoorMathA
import Derived.WalkKit
import Derived.WalkSpells
import Derived.WalkLawsBesides
import Derived.Test.YtclfiaemjdflbaaDoorKit
namespace Go.Proofs.YtclfiaemjdflbaaDoor
open Go.RowKit

set_option maxHeartbeats 400000 in
theorem magnitude_any (x : Int) (w : World) (h1 : -9223372036854775808 ≤ x) (h2 : x ≤ 9223372036854775807) :
    Calls Tryd.prog 32 #[.int .i64 x] w fun e w' => e = .returned (.int .u64 (mg x)) ∧ w = w' := by
  by_cases h : x < 0
  · go_enter Tryd.func32, Tryd.ntmps32
    go_wp2
    go_ret
    exact ⟨ret_int (by rw [mg_neg h]; first | omega | (simp only [IntKind.wrap_u64]; omega)), rfl⟩
  · go_enter Tryd.func32, Tryd.ntmps32
    go_wp2
    go_ret
    exact ⟨ret_int (by rw [mg_pos (by omega)]), rfl⟩
set_option maxHeartbeats 400000 in
theorem mag_any (x : Int) (w : World) (h1 : -9223372036854775808 ≤ x) (h2 : x ≤ 9223372036854775807) :
    Calls Tryd.prog 23 #[.int .i64 x] w fun e w' => e = .returned (.int .u64 (mg x)) ∧ w = w' := by
  by_cases h : x < 0
  · go_enter Tryd.func23, Tryd.ntmps23
    go_wp2
    go_ret
    exact ⟨ret_int (by rw [mg_neg h]; first | omega | (simp only [IntKind.wrap_u64]; omega)), rfl⟩
  · go_enter Tryd.func23, Tryd.ntmps23
    go_wp2
    go_ret
    exact ⟨ret_int (by rw [mg_pos (by omega)]), rfl⟩

set_option maxHeartbeats 400000 in
theorem gcd_any (x y : Int) (w : World) (hx : 0 ≤ x) (hx2 : x < 18446744073709551616) (hy : 0 ≤ y) (hy2 : y < 18446744073709551616) :
    Calls Tryd.prog 33 #[.int .u64 x, .int .u64 y] w fun e w' => e = .returned (.int .u64 (gc x y)) ∧ ∃ n, w' = w.drewN n := by
  go_enter Tryd.func33, Tryd.ntmps33
  go_wp2
  go_loopw [0, 1] (fun a b wr => ∃ p q : Int, 0 ≤ p ∧ p < 18446744073709551616 ∧ 0 ≤ q ∧ q < 18446744073709551616 ∧ a = .int .u64 p ∧ b = .int .u64 q ∧ Hid (gc p q = gc x y) ∧ ∃ n, wr = w.drewN n) (fun _ b _ => (intOf b).toNat)
  case atStart => exact ⟨x, y, hx, hx2, hy, hy2, rfl, rfl, rfl, 0, rfl⟩
  case round =>
    obtain ⟨p, q, hp, hp2, hq, hq2, rfl, rfl, hg, n, rfl⟩ := hrel
    by_cases h0 : q = 0
    · subst h0
      go_wp2
      go_ret
      exact ⟨ret_int (by rw [← hg.out, gc_zero _ hp]), n, rfl⟩
    · have hb : (q != 0) = true := by simpa using h0
      have hm1 : 0 ≤ p % q := Int.emod_nonneg _ h0
      have hm2 : p % q < q := Int.emod_lt_of_pos _ (by omega)
      go_wp2
      go_region
      go_wp2
      go_roundw
      case rel => exact ⟨q, p % q, hq, hq2, hm1, by omega, rfl, rfl, (gc_step p q hp hq).trans hg.out, n + 1, rfl⟩
      case measure => simp [intOf]; omega
set_option maxHeartbeats 400000 in
theorem rgcd_any (x y : Int) (w : World) (hx : 0 ≤ x) (hx2 : x < 18446744073709551616) (hy : 0 ≤ y) (hy2 : y < 18446744073709551616) :
    Calls Tryd.prog 30 #[.int .u64 x, .int .u64 y] w fun e w' => e = .returned (.int .u64 (gc x y)) ∧ ∃ n, w' = w.drewN n := by
  go_enter Tryd.func30, Tryd.ntmps30
  go_wp2
  go_loopw [0, 1] (fun a b wr => ∃ p q : Int, 0 ≤ p ∧ p < 18446744073709551616 ∧ 0 ≤ q ∧ q < 18446744073709551616 ∧ a = .int .u64 p ∧ b = .int .u64 q ∧ Hid (gc p q = gc x y) ∧ ∃ n, wr = w.drewN n) (fun _ b _ => (intOf b).toNat)
  case atStart => exact ⟨x, y, hx, hx2, hy, hy2, rfl, rfl, rfl, 0, rfl⟩
  case round =>
    obtain ⟨p, q, hp, hp2, hq, hq2, rfl, rfl, hg, n, rfl⟩ := hrel
    by_cases h0 : q = 0
    · subst h0
      go_wp2
      go_ret
      exact ⟨ret_int (by rw [← hg.out, gc_zero _ hp]), n, rfl⟩
    · have hb : (q != 0) = true := by simpa using h0
      have hm1 : 0 ≤ p % q := Int.emod_nonneg _ h0
      have hm2 : p % q < q := Int.emod_lt_of_pos _ (by omega)
      go_wp2
      go_region
      go_wp2
      go_roundw
      case rel => exact ⟨q, p % q, hq, hq2, hm1, by omega, rfl, rfl, (gc_step p q hp hq).trans hg.out, n + 1, rfl⟩
      case measure => simp [intOf]; omega
end Go.Proofs.YtclfiaemjdflbaaDoor
