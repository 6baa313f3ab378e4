/-
  Contract of Decimal of the reference (over Fint).
  Conditions: none beyond the kind of the argument.
-/
import Derived.Test.YtckmebfgianeoaaDoorFint
import Derived.Test.YtckmebfgianeoaaDoorMathP
namespace Go.Proofs.YtckmebfgianeoaaDoor
open Go.RowKit Go.Lib
set_option linter.unusedSimpArgs false
set_option linter.unusedVariables false

theorem dec_step (v : Nat) (h : ¬ v < 10) : decDigits v = decDigits (v / 10) ++ [UInt8.ofNat (48 + v % 10)] := by rw [decDigits, dif_neg h]
theorem dec_len (u : Nat) (h : u < 18446744073709551616) : (decDigits u).length ≤ 20 := by
  rw [decDigits_length, show (20 : Nat) = 19 + 1 from rfl]
  rcases Nat.lt_or_ge (nDigits u) 21 with hh | hh
  · omega
  · exfalso
    have h1 : ∀ k v : Nat, v < 10 ^ (k + 1) → nDigits v ≤ k + 1 := by
      intro k
      induction k with
      | zero => intro v hv; rw [nDigits_small (by simpa using hv)]; omega
      | succ k ih =>
        intro v hv
        by_cases hs : v < 10
        · rw [nDigits_small hs]; omega
        · rw [nDigits_big hs]
          rw [Nat.pow_succ] at hv
          have := ih (v / 10) (by omega)
          omega
    have := h1 19 u (by omega)
    omega
set_option maxHeartbeats 2000000 in
set_option maxRecDepth 20000 in
theorem decimal_any (u : Nat) (w : World) (h : u < 18446744073709551616) :
    Calls Tryd.prog 54 #[.int .u64 u] w fun e w' => e = .returned (.string ⟨(decDigits u).toArray⟩) ∧ Gr w w' := by
  have hl := dec_len u h
  have h' : (u : Int) < 18446744073709551616 := by omega
  clear h
  go_enter Tryd.func54, Tryd.ntmps54
  go_wp2
  go_loopw [0, 3] (fun n s wr => ∃ (v : Nat) (acc : List UInt8), (v : Int) < 18446744073709551616 ∧ acc.length ≤ 20 ∧ n = .int .u64 v ∧ s = .string ⟨acc.toArray⟩ ∧ Hid (decDigits v ++ acc = decDigits u) ∧ Gr w wr) (fun n _ _ => (RowKit.intOf n).toNat)
  case atStart => exact ⟨u, [], h', by simp, rfl, rfl, (List.append_nil _ : decDigits u ++ [] = decDigits u), Gr.refl _⟩
  case round =>
    obtain ⟨v, acc, hv, ha, rfl, rfl, hno, hg⟩ := hrel
    have d0 : (0 : Int) ≤ (v : Int) % 10 := by omega
    have d1 : (v : Int) % 10 < 10 := by omega
    have hb : ((UInt8.ofNat (48 + v % 10)).toNat : Int) = 48 + (v : Int) % 10 := by rw [digit_byte (Nat.mod_lt v (by omega))]; omega
    obtain ⟨c, ec⟩ : ∃ c, UInt8.ofNat (48 + v % 10) = c := ⟨_, rfl⟩
    rw [ec] at hb
    have kc : ∀ (w : World), (convert 53 9 (.slice (some ⟨w.heap.size, 0, none⟩) 1 1)).run Tryd.prog (w.alloc (.cells #[.int .u8 (48 + (v : Int) % 10)] 5)) = .ok (.string ⟨#[c]⟩) (w.alloc (.cells #[.int .u8 (48 + (v : Int) % 10)] 5)) := fun w => by
      have := run_convert_bytes_back (P := Tryd.prog) (w.alloc (.cells #[.int .u8 (48 + (v : Int) % 10)] 5)) 53 9 5 ⟨w.heap.size, 0, none⟩ 1 [c] Tryd.underlying53 Tryd.underlying5 Tryd.underlying9 (fun j hj => by
        have h0 : j = 0 := by simpa using hj
        subst h0
        simp [Addr.add]
        exact hb.symm)
      exact this
    have ks : ∀ w, (Op.stringOp .add ⟨#[c]⟩ ⟨acc.toArray⟩).run Tryd.prog w = .ok (.string ⟨(c :: acc).toArray⟩) w := fun w => run_string_add_lists w [_] acc (by simp) (by omega)
    have kc := Lib.hid kc
    clear hb
    have hlen : (decDigits v).length + acc.length ≤ 20 := by
      have := congrArg List.length hno.out
      rw [List.length_append] at this
      omega
    have hnz : 1 ≤ (decDigits v).length := by rw [decDigits_length]; exact nDigits_pos v
    have ec := Lib.hid ec
    by_cases hz : v < 10
    · have z : ((v : Int) / 10 == 0) = true := by simp; omega
      have e : c :: acc = decDigits u := by
        have := hno.out
        rw [decDigits_one hz] at this
        have e2 := ec.out
        rw [Nat.mod_eq_of_lt hz] at e2
        rw [← this, e2]
        rfl
      have e := Lib.hid e
      have kc := kc.out
      go_wp2_with fail
      go_ret
      refine ⟨?_, (by repeat (first | with_reducible exact Gr.refl _ | with_reducible assumption | refine Gr.setCell ?_ (by first | omega | (simp; done) | (simp; omega)) _ | refine Gr.alloc ?_ _ | refine Gr.drew ?_ | refine Gr.drewN ?_ _ | refine Gr.trans ?_ (by with_reducible assumption)))⟩
      rw [← e.out]
      rfl
    · have z : ((v : Int) / 10 == 0) = false := by simp; omega
      have e : Hid (decDigits (v / 10) ++ (c :: acc) = decDigits u) := by
        have h1 := hno.out
        rw [dec_step v hz, ec.out, List.append_assoc] at h1
        exact h1
      have kc := kc.out
      go_wp2_with fail
      refine ⟨⟨v / 10, c :: acc, by omega, by simp only [List.length_cons]; omega, by congr 1, rfl, e, (by repeat (first | with_reducible exact Gr.refl _ | with_reducible assumption | refine Gr.setCell ?_ (by first | omega | (simp; done) | (simp; omega)) _ | refine Gr.alloc ?_ _ | refine Gr.drew ?_ | refine Gr.drewN ?_ _ | refine Gr.trans ?_ (by with_reducible assumption)))⟩, by simp [RowKit.intOf]; omega⟩
end Go.Proofs.YtckmebfgianeoaaDoor
