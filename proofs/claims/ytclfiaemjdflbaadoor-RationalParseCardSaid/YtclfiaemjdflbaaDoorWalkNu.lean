/-
  Contract of number of the reference.
  Conditions: the string has at most 2^47 bytes, the place lies within it.
-/
import Derived.Test.YtclfiaemjdflbaaDoorWalkFr
namespace Go.Proofs.YtclfiaemjdflbaaDoor
open Go.RowKit Go.Lib
set_option linter.unusedSimpArgs false
set_option linter.unusedVariables false

/-- what number hands back -/
def nuN (i : Nat) (R : Option (Nat × Nat)) : Int := match R with | some (n, c) => n | none => 0
def nuK (i : Nat) (R : Option (Nat × Nat)) : Int := match R with | some (n, c) => (i + c : Nat) | none => i
theorem nu_some {i m kk : Nat} {R : Option (Nat × Nat)} (hi : i ≤ kk) (h : some (m, kk - i) = R) : nuN i R = m ∧ nuK i R = kk := by
  subst h
  unfold nuN nuK
  simp
  omega
theorem drop_at (s : ByteArray) (k : Nat) (h : k < s.size) : s.data.toList.drop k = s[k] :: s.data.toList.drop (k + 1) := by
  rw [List.drop_eq_getElem_cons (by simpa using h)]
  rfl

set_option maxRecDepth 20000 in
set_option maxHeartbeats 4000000 in
theorem number_any (s : ByteArray) (i : Nat) (w : World) (hs : s.size ≤ 140737488355328) (hi : i ≤ s.size) :
    Calls Tryd.prog 31 #[.string s, .int .i64 i] w fun e w' => e = .returned (.tuple #[.int .i64 (nuN i (numF 19 0 0 (s.data.toList.drop i))), .int .i64 (nuK i (numF 19 0 0 (s.data.toList.drop i)))]) ∧ Gr w w' := by
  obtain ⟨R, hR⟩ : ∃ R, numF 19 0 0 (s.data.toList.drop i) = R := ⟨_, rfl⟩
  rw [hR]
  have hi2 : (i : Int) ≤ 140737488355328 := by omega
  have HS : Hid (numF (19 - (i - i)) 0 (i - i) (s.data.toList.drop i) = R) := by rw [Nat.sub_self]; exact hR
  clear hR
  go_enter Tryd.func31, Tryd.ntmps31
  go_wp2
  go_loop [6, 7, 8] (fun n k d => ∃ kk m : Nat, i ≤ kk ∧ kk ≤ s.size ∧ kk ≤ i + 19 ∧ (m : Int) ≤ 9223372036854775807 ∧ n = .int .i64 m ∧ k = .int .i64 kk ∧ Hid (numF (19 - (kk - i)) m (kk - i) (s.data.toList.drop kk) = R)) (fun _ k _ => s.size - (RowKit.intOf k).toNat)
  case atStart => exact ⟨i, 0, Nat.le_refl _, hi, by omega, by omega, rfl, rfl, HS⟩
  case round =>
    obtain ⟨kk, m, h1, h2, h3, h4, rfl, rfl, hno⟩ := hrel
    by_cases c1 : kk < s.size
    · have hd := drop_at s kk c1
      have q1 : decide (kk < s.size) = true := decide_eq_true c1
      by_cases c2 : 48 ≤ (s[kk].toNat : Int)
      · have q2 : decide ((48 : Int) ≤ (s[kk].toNat : Int)) = true := decide_eq_true c2
        by_cases c3 : (s[kk].toNat : Int) ≤ 57
        · have q3 : decide ((s[kk].toNat : Int) ≤ 57) = true := decide_eq_true c3
          by_cases c4 : kk < i + 19
          · have q4 : decide ((kk : Int) < (i : Int) + 19) = true := decide_eq_true (by omega)
            have hstep : Hid (numF (19 - (kk - i)) m (kk - i) (s.data.toList.drop kk) = if (9223372036854775807 - (s[kk].toNat - 48)) / 10 < m then none else numF (19 - (kk + 1 - i)) (10 * m + (s[kk].toNat - 48)) (kk + 1 - i) (s.data.toList.drop (kk + 1))) := by
              rw [hd, show 19 - (kk - i) = (19 - (kk + 1 - i)) + 1 by omega, numF_cons, if_pos (by omega), show kk - i + 1 = kk + 1 - i by omega]
              exact Lib.hid rfl
            by_cases c5 : (9223372036854775807 - ((s[kk].toNat : Int) - 48)) / 10 < (m : Int)
            · have hv : R = none := by
                have := hstep.out
                rw [hno.out, if_pos (by omega)] at this
                exact this
              have q5 : decide ((9223372036854775807 - ((s[kk].toNat : Int) - 48)) / 10 < (m : Int)) = true := decide_eq_true c5
              clear hno hstep hd
              subst hv
              go_wp2_with fail
              go_ret2
              exact ⟨rfl, (by repeat (first | with_reducible exact Gr.refl _ | with_reducible assumption | refine Gr.setCell ?_ (by first | omega | (simp; done) | (simp; omega)) _ | refine Gr.alloc ?_ _ | refine Gr.drew ?_ | refine Gr.drewN ?_ _ | refine Gr.trans ?_ (by with_reducible assumption)))⟩
            · have hv : Hid (numF (19 - (kk + 1 - i)) (10 * m + (s[kk].toNat - 48)) (kk + 1 - i) (s.data.toList.drop (kk + 1)) = R) := by
                have := hstep.out
                rw [hno.out, if_neg (by omega)] at this
                exact this.symm
              have q5 : decide ((9223372036854775807 - ((s[kk].toNat : Int) - 48)) / 10 < (m : Int)) = false := decide_eq_false c5
              clear hno hstep hd
              go_wp2_with fail
              exact ⟨⟨kk + 1, 10 * m + (s[kk].toNat - 48), by omega, by omega, by omega, by omega, by congr 1; omega, by congr 1, hv⟩, by simp [RowKit.intOf]; omega⟩
          · have q4 : decide ((kk : Int) < (i : Int) + 19) = false := decide_eq_false (by omega)
            clear hd
            have hv : some (m, kk - i) = R := by
              have := hno.out
              rw [show 19 - (kk - i) = 0 by omega, numF_zero] at this
              exact this
            have hv := Lib.hid (nu_some h1 hv)
            clear hno
            go_wp2_with fail
            go_ret2
            exact ⟨by rw [hv.out.1, hv.out.2]; rfl, (by repeat (first | with_reducible exact Gr.refl _ | with_reducible assumption | refine Gr.setCell ?_ (by first | omega | (simp; done) | (simp; omega)) _ | refine Gr.alloc ?_ _ | refine Gr.drew ?_ | refine Gr.drewN ?_ _ | refine Gr.trans ?_ (by with_reducible assumption)))⟩
        · have q3 : decide ((s[kk].toNat : Int) ≤ 57) = false := decide_eq_false c3
          have hv : some (m, kk - i) = R := by
            have := hno.out
            rw [hd] at this
            rw [← this]
            rcases (show kk < i + 19 ∨ kk = i + 19 by omega) with h | h
            · rw [show 19 - (kk - i) = 19 - (kk + 1 - i) + 1 by omega, numF_cons, if_neg (by omega)]
            · rw [show 19 - (kk - i) = 0 by omega, numF_zero]
          have hv := Lib.hid (nu_some h1 hv)
          clear hno hd
          go_wp2_with fail
          go_ret2
          exact ⟨by rw [hv.out.1, hv.out.2]; rfl, (by repeat (first | with_reducible exact Gr.refl _ | with_reducible assumption | refine Gr.setCell ?_ (by first | omega | (simp; done) | (simp; omega)) _ | refine Gr.alloc ?_ _ | refine Gr.drew ?_ | refine Gr.drewN ?_ _ | refine Gr.trans ?_ (by with_reducible assumption)))⟩
      · have q2 : decide ((48 : Int) ≤ (s[kk].toNat : Int)) = false := decide_eq_false c2
        have hv : some (m, kk - i) = R := by
          have := hno.out
          rw [hd] at this
          rw [← this]
          rcases (show kk < i + 19 ∨ kk = i + 19 by omega) with h | h
          · rw [show 19 - (kk - i) = 19 - (kk + 1 - i) + 1 by omega, numF_cons, if_neg (by omega)]
          · rw [show 19 - (kk - i) = 0 by omega, numF_zero]
        have hv := Lib.hid (nu_some h1 hv)
        clear hno hd
        go_wp2_with fail
        go_ret2
        exact ⟨by rw [hv.out.1, hv.out.2]; rfl, (by repeat (first | with_reducible exact Gr.refl _ | with_reducible assumption | refine Gr.setCell ?_ (by first | omega | (simp; done) | (simp; omega)) _ | refine Gr.alloc ?_ _ | refine Gr.drew ?_ | refine Gr.drewN ?_ _ | refine Gr.trans ?_ (by with_reducible assumption)))⟩
    · have q1 : decide (kk < s.size) = false := decide_eq_false c1
      have hv : some (m, kk - i) = R := by
        have := hno.out
        rw [List.drop_of_length_le (by simp; omega), numF_nil] at this
        exact this
      have hv := Lib.hid (nu_some h1 hv)
      clear hno
      go_wp2_with fail
      go_ret2
      exact ⟨by rw [hv.out.1, hv.out.2]; rfl, (by repeat (first | with_reducible exact Gr.refl _ | with_reducible assumption | refine Gr.setCell ?_ (by first | omega | (simp; done) | (simp; omega)) _ | refine Gr.alloc ?_ _ | refine Gr.drew ?_ | refine Gr.drewN ?_ _ | refine Gr.trans ?_ (by with_reducible assumption)))⟩
end Go.Proofs.YtclfiaemjdflbaaDoor
