/-
  Contracts of math/bits.Div64 and Rem64.
  Conditions: the arguments are words, the divisor is greater than the high word (Div64) or not 0 (Rem64).
-/
import Derived.Test.YtclfiaemjdflbaaDoorWalkA
import Derived.Test.YtclfiaemjdflbaaDoorShelf
import Derived.Test.YtclfiaemjdflbaaDoorMathD
namespace Go.Proofs.YtclfiaemjdflbaaDoor
open Go.RowKit
set_option linter.unusedSimpArgs false
set_option linter.unusedVariables false

theorem lz_any (x : Int) (w : World) (h0 : 0 ≤ x) (h1 : x < 18446744073709551616) :
    Calls Tryd.prog 56 #[.int .u64 x] w fun e w' => e = .returned (.int .i64 (64 - (Lib.bitLen x.toNat : Int))) ∧ w = w' :=
  (Tryd.bits_LeadingZeros64 x w h0 (by omega)).mono fun e w' ⟨h, h'⟩ => ⟨h, h'.symm⟩

theorem wrap_rest {u d yv t x : Int} (h : u * 4294967296 + d = t * yv + x) (h0 : 0 ≤ x) (h1 : x < 18446744073709551616) :
    IntKind.u64.wrap (IntKind.u64.wrap (IntKind.u64.wrap (u * 4294967296) + d) - IntKind.u64.wrap (t * yv)) = x := by
  simp only [IntKind.wrap_u64]
  omega

set_option maxHeartbeats 4000000 in
theorem div64_core (hi lo y s yv yn1 yn0 u v v1 v0 t1 x t0 z qq rr : Int) (w : World) (h1 : 0 < hi) (h2 : hi < y) (h3 : 0 ≤ lo) (h4 : lo < 18446744073709551616) (h5 : y < 18446744073709551616) (hs0 : 0 ≤ s) (hs1 : s ≤ 63) (hs : Hid (64 - (Lib.bitLen y.toNat : Int) = s))
    (hyv : IntKind.u64.wrap (y * 2 ^ s.toNat) = yv) (hy1 : 9223372036854775808 ≤ yv) (hy2 : yv < 18446744073709551616) (hyn1 : yv / 4294967296 = yn1) (hyn0 : bits .and .u64 yv 4294967295 = yn0) (hyy : Hid (yv = yn1 * 4294967296 + yn0))
    (hn1 : 2147483648 ≤ yn1) (hn1' : yn1 < 4294967296) (hn0 : 0 ≤ yn0) (hn0' : yn0 < 4294967296)
    (hu : bits .or .u64 (IntKind.u64.wrap (hi * 2 ^ s.toNat)) (lo / 2 ^ (64 - s).toNat) = u) (hu0 : 0 ≤ u) (huy : u < yv)
    (hv : IntKind.u64.wrap (lo * 2 ^ s.toNat) = v) (hv0 : bits .and .u64 v 4294967295 = v0) (hv1 : v / 4294967296 = v1) (hva : 0 ≤ v1) (hvb : v1 < 4294967296) (hvc : 0 ≤ v0) (hvd : v0 < 4294967296) (hve : 0 ≤ v) (hvf : v < 18446744073709551616)
    (ht1 : Hid (dgt u v1 yv = t1)) (hx : IntKind.u64.wrap (IntKind.u64.wrap (IntKind.u64.wrap (u * 4294967296) + v1) - IntKind.u64.wrap (t1 * yv)) = x) (hx0 : 0 ≤ x) (hxy : x < yv)
    (ht0 : Hid (dgt x v0 yv = t0)) (hz : IntKind.u64.wrap (IntKind.u64.wrap (IntKind.u64.wrap (x * 4294967296) + v0) - IntKind.u64.wrap (t0 * yv)) = z) (hz0 : 0 ≤ z) (hzy : z < yv) (ht1a : 0 ≤ t1) (ht1b : t1 < 4294967296) (ht0a : 0 ≤ t0) (ht0b : t0 < 4294967296)
    (hqq : Hid (t1 * 4294967296 + t0 = qq)) (hrr : Hid (z / 2 ^ s.toNat = rr)) :
    Calls Tryd.prog 45 #[.int .u64 hi, .int .u64 lo, .int .u64 y] w fun e w' => e = .returned (.tuple #[.int .u64 qq, .int .u64 rr]) ∧ w = w' := by
  have c1 : (y == 0) = false := by simp; omega
  have c2 : ¬ y ≤ hi := by omega
  have c3 : (hi == 0) = false := by simp; omega
  have hqa : 0 ≤ u / yn1 := Int.ediv_nonneg hu0 (by omega)
  have hqb : u / yn1 ≤ u := Int.ediv_le_self _ hu0
  have hqc : 0 ≤ u / yn1 * yn1 := Int.mul_nonneg hqa (by omega)
  have hqd : u / yn1 * yn1 ≤ u := Int.ediv_mul_le _ (by omega)
  have hqe : Hid (dgt u v1 yv ≤ u / yn1) := dgt_guess hyy.out (by omega) hn0 hu0 hva hvb
  have hqf : u - u / yn1 * yn1 < yn1 := by
    have e := Int.mul_ediv_add_emod u yn1
    have e' := Int.emod_lt_of_pos u (show 0 < yn1 by omega)
    rw [Int.mul_comm] at e
    omega
  go_enter Tryd.func45, Tryd.ntmps45
  go_wp2_with (go_at_call 56; refine (lz_any _ _ (by omega) (by omega)).mono ?_; rw [hs.out]; rintro e w' ⟨rfl, rfl⟩)
  clear hu hv hv0 hyn0 hyn1 hyv hv1
  go_loop [15, 16] (fun a b => ∃ q r : Int, 0 ≤ q ∧ q ≤ u ∧ 0 ≤ r ∧ r < 4294967296 ∧ Hid (q * yn1 + r = u) ∧ Hid (dgt u v1 yv ≤ q) ∧ a = .int .u64 q ∧ b = .int .u64 r) (fun a _ => (intOf a).toNat)
  case atStart => exact ⟨u / yn1, u - u / yn1 * yn1, hqa, hqb, by omega, by omega, (by omega : u / yn1 * yn1 + (u - u / yn1 * yn1) = u), hqe, rfl, rfl⟩
  case round =>
    obtain ⟨q, r, hq0, hq1, hr0, hr1, hinv, hle, rfl, rfl⟩ := hrel
    clear hqa hqb hqc hqd hqe hqf
    have hp0 : 0 ≤ q * yn0 := Int.mul_nonneg hq0 hn0
    have hp1 : q < 4294967296 → q * yn0 < 18446744073709551616 := fun h => by
      have := Int.mul_le_mul (show q ≤ 4294967295 by omega) (show yn0 ≤ 4294967295 by omega) hn0 (by omega)
      omega
    rcases (show ((4294967296 ≤ q ∧ r + yn1 < 4294967296) ∨ (q < 4294967296 ∧ 4294967296 * r + v1 < q * yn0 ∧ r + yn1 < 4294967296)) ∨
        ((4294967296 ≤ q ∧ 4294967296 ≤ r + yn1) ∨ (q < 4294967296 ∧ 4294967296 * r + v1 < q * yn0 ∧ 4294967296 ≤ r + yn1) ∨ (q < 4294967296 ∧ q * yn0 ≤ 4294967296 * r + v1)) by omega) with hN | hE
    · have hgt := dgt_cont hyy.out (by omega) huy hvb hinv.out (by omega)
      have hq2 : 1 ≤ q := by have := dgt_nonneg hu0 hva (show 0 < yv by omega); omega
      have HE : Hid (dgt u v1 yv ≤ q - 1) := (by omega : dgt u v1 yv ≤ q - 1)
      have HI : Hid ((q - 1) * yn1 + (r + yn1) = u) := (by rw [Int.sub_mul]; have := hinv.out; omega : (q - 1) * yn1 + (r + yn1) = u)
      clear hgt
      rcases hN with ⟨hc, hb⟩ | ⟨hc, hd, hb⟩
      all_goals
        try have hp2 := hp1 hc
        clear hp1
        go_wp2
        go_round
        case rel => exact ⟨q - 1, r + yn1, by omega, by omega, by omega, by omega, HI, HE, rfl, rfl⟩
        case measure => simp [intOf]; omega
    · have hq' : Hid (if 4294967296 ≤ q ∨ 4294967296 * r + v1 < q * yn0 then q - 1 = t1 else q = t1) := by
        show if 4294967296 ≤ q ∨ 4294967296 * r + v1 < q * yn0 then q - 1 = t1 else q = t1
        split
        · rename_i hc
          have hgt := dgt_cont hyy.out (by omega) huy hvb hinv.out hc
          have hge := dgt_nonneg hu0 hva (show 0 < yv by omega)
          rw [← ht1.out]
          exact dgt_break hyy.out (by omega) (by omega) hn0 hn0' huy hva (by omega) (show 4294967296 ≤ r + yn1 by omega) (by rw [Int.sub_mul]; have := hinv.out; omega) (by omega)
        · rename_i hc
          rw [← ht1.out]
          exact dgt_stop hyy.out (by omega) hinv.out hle.out (by omega)
      have hy0 : 0 ≤ x / yn1 := Int.ediv_nonneg hx0 (by omega)
      have hyb : x / yn1 ≤ x := Int.ediv_le_self _ hx0
      have hyc : 0 ≤ x / yn1 * yn1 := Int.mul_nonneg hy0 (by omega)
      have hyd : x / yn1 * yn1 ≤ x := Int.ediv_mul_le _ (by omega)
      have hye : Hid (dgt x v0 yv ≤ x / yn1) := dgt_guess hyy.out (by omega) hn0 hx0 hvc hvd
      have hyf : x - x / yn1 * yn1 < yn1 := by
        have e := Int.mul_ediv_add_emod x yn1
        have e' := Int.emod_lt_of_pos x (show 0 < yn1 by omega)
        rw [Int.mul_comm] at e
        omega
      rcases hE with ⟨hc, hb⟩ | ⟨hc, hd, hb⟩ | ⟨hc, hb⟩
      all_goals
        have hqt := hq'.out
        first
          | (rw [if_neg (by omega)] at hqt; subst hqt)
          | (rw [if_pos (by omega)] at hqt; have hq2 : 1 ≤ q := by omega)
        try have hp2 := hp1 hc
        clear hp1 hq'
        go_wp2
        clear hp0
        try clear hp2
        clear hx hinv hle hq0 hq1 hr0 hr1 hc hb
        try clear hqt
        try clear hq2
        go_loop [18, 16] (fun a b => ∃ q r : Int, 0 ≤ q ∧ q ≤ x ∧ 0 ≤ r ∧ r < 4294967296 ∧ Hid (q * yn1 + r = x) ∧ Hid (dgt x v0 yv ≤ q) ∧ a = .int .u64 q ∧ b = .int .u64 r) (fun a _ => (intOf a).toNat)
        case atStart => exact ⟨x / yn1, x - x / yn1 * yn1, hy0, hyb, by omega, by omega, (by omega : x / yn1 * yn1 + (x - x / yn1 * yn1) = x), hye, rfl, rfl⟩
        case round =>
          obtain ⟨q, r, hq0, hq1, hr0, hr1, hinv, hle, rfl, rfl⟩ := hrel
          clear hy0 hyb hyc hyd hye hyf
          have hp0 : 0 ≤ q * yn0 := Int.mul_nonneg hq0 hn0
          have hp1 : q < 4294967296 → q * yn0 < 18446744073709551616 := fun h => by
            have := Int.mul_le_mul (show q ≤ 4294967295 by omega) (show yn0 ≤ 4294967295 by omega) hn0 (by omega)
            omega
          rcases (show ((4294967296 ≤ q ∧ r + yn1 < 4294967296) ∨ (q < 4294967296 ∧ 4294967296 * r + v0 < q * yn0 ∧ r + yn1 < 4294967296)) ∨
              ((4294967296 ≤ q ∧ 4294967296 ≤ r + yn1) ∨ (q < 4294967296 ∧ 4294967296 * r + v0 < q * yn0 ∧ 4294967296 ≤ r + yn1) ∨ (q < 4294967296 ∧ q * yn0 ≤ 4294967296 * r + v0)) by omega) with hN | hE
          · have hgt := dgt_cont hyy.out (by omega) hxy hvd hinv.out (by omega)
            have hge := dgt_nonneg hx0 hvc (show 0 < yv by omega)
            have hq2 : 1 ≤ q := by omega
            have HE : Hid (dgt x v0 yv ≤ q - 1) := (by omega : dgt x v0 yv ≤ q - 1)
            have HI : Hid ((q - 1) * yn1 + (r + yn1) = x) := (by rw [Int.sub_mul]; have := hinv.out; omega : (q - 1) * yn1 + (r + yn1) = x)
            clear hgt hge
            rcases hN with ⟨hc, hb⟩ | ⟨hc, hd, hb⟩
            all_goals
              try have hp2 := hp1 hc
              clear hp1
              go_wp2
              go_round
              case rel => exact ⟨q - 1, r + yn1, by omega, by omega, by omega, by omega, HI, HE, rfl, rfl⟩
              case measure => simp [intOf]; omega
          · have hq' : Hid (if 4294967296 ≤ q ∨ 4294967296 * r + v0 < q * yn0 then q - 1 = t0 else q = t0) := by
              show if 4294967296 ≤ q ∨ 4294967296 * r + v0 < q * yn0 then q - 1 = t0 else q = t0
              split
              · rename_i hc
                have hgt := dgt_cont hyy.out (by omega) hxy hvd hinv.out hc
                have hge := dgt_nonneg hx0 hvc (show 0 < yv by omega)
                rw [← ht0.out]
                exact dgt_break hyy.out (by omega) (by omega) hn0 hn0' hxy hvc (by omega) (show 4294967296 ≤ r + yn1 by omega) (by rw [Int.sub_mul]; have := hinv.out; omega) (by omega)
              · rename_i hc
                rw [← ht0.out]
                exact dgt_stop hyy.out (by omega) hinv.out hle.out (by omega)
            rcases hE with ⟨hc, hb⟩ | ⟨hc, hd, hb⟩ | ⟨hc, hb⟩
            all_goals
              have hqt := hq'.out
              first
                | (rw [if_neg (by omega)] at hqt; subst hqt)
                | (rw [if_pos (by omega)] at hqt; have hq2 : 1 ≤ q := by omega)
              try have hp2 := hp1 hc
              clear hp1 hq'
              go_wp2
              go_ret2
              exact ⟨by rw [hqq.out, hrr.out]; rfl, rfl⟩

end Go.Proofs.YtclfiaemjdflbaaDoor
