/-
  Contracts of Format of package rational and of the reference, for all arguments.
  Conditions: the listed variables of strconv hold what their text lays (for the program's).
-/
import Derived.Test.YtclfiaemjdflbaaDoorWalkDc
namespace Go.Proofs.YtclfiaemjdflbaaDoor
open Go.RowKit Go.Lib
set_option linter.unusedSimpArgs false
set_option linter.unusedVariables false

set_option maxHeartbeats 1000000 in
theorem rformat_no (n d : Int) (w : World) (HV : ∀ w, Calls Tryd.prog 14 #[.agg #[.int .i64 n, .int .i64 d]] w fun e w' => e = .returned (.bool false) ∧ Gr w w') :
    Calls Tryd.prog 12 #[.agg #[.int .i64 n, .int .i64 d]] w fun e w' => e = .returned (.string ⟨#[]⟩) ∧ Gr w w' := by
  have HV := Lib.hid HV
  go_enter Tryd.func12, Tryd.ntmps12
  go_wp2_with (go_at_call 14; with_reducible refine (HV.out _).mono ?_; rintro e w1 ⟨rfl, hg1⟩; obtain ⟨hc1, hf1⟩ := hg1.cells; have hz1 := hg1.size; (try simp at hz1); (try have hl1_0_0 : w.heap.size < w1.heap.size := by omega); (try have hm1_0_0 : w.heap.size ≤ w1.heap.size := by omega); (try have hl1_0_1 : w.heap.size + 1 < w1.heap.size := by omega); (try have hl1_0_2 : w.heap.size + 2 < w1.heap.size := by omega))
  go_ret
  exact ⟨rfl, (by repeat (first | with_reducible exact Gr.refl _ | with_reducible assumption | refine Gr.setCell ?_ (by first | omega | (simp; done) | (simp; omega)) _ | refine Gr.alloc ?_ _ | refine Gr.drew ?_ | refine Gr.drewN ?_ _ | refine Gr.trans ?_ (by with_reducible assumption)))⟩
set_option maxHeartbeats 2000000 in
theorem rformat_core (n d m : Int) (s t p : List UInt8) (w : World) (hs : s.length ≤ 30) (ht : t.length ≤ 30) (hp : (n < 0 ∧ p = 45 :: s) ∨ (0 ≤ n ∧ p = s)) (hd1 : 1 ≤ d) (hd2 : d ≤ 9223372036854775807)
    (HV : ∀ w, Calls Tryd.prog 14 #[.agg #[.int .i64 n, .int .i64 d]] w fun e w' => e = .returned (.bool true) ∧ Gr w w')
    (HM : ∀ w, Calls Tryd.prog 23 #[.int .i64 n] w fun e w' => e = .returned (.int .u64 m) ∧ w = w')
    (HN : ∀ w, Calls Tryd.prog 27 #[.int .u64 m] w fun e w' => e = .returned (.string ⟨s.toArray⟩) ∧ Gr w w')
    (HD : ∀ w, Calls Tryd.prog 27 #[.int .u64 d] w fun e w' => e = .returned (.string ⟨t.toArray⟩) ∧ Gr w w') :
    Calls Tryd.prog 12 #[.agg #[.int .i64 n, .int .i64 d]] w fun e w' => e = .returned (.string ⟨(p ++ if d = 1 then [] else 47 :: t).toArray⟩) ∧ Gr w w' := by
  have HV := Lib.hid HV
  have HM := Lib.hid HM
  have HN := Lib.hid HN
  have HD := Lib.hid HD
  have k0 : ∀ w, (Op.stringOp .add ⟨#[45]⟩ ⟨s.toArray⟩).run Tryd.prog w = .ok (.string ⟨(45 :: s).toArray⟩) w := fun w => run_string_add_lists w [45] s (by simp) (by omega)
  have hl : p.length ≤ 31 := by rcases hp with ⟨_, rfl⟩ | ⟨_, rfl⟩ <;> (try simp only [List.length_cons]) <;> omega
  have k1 : ∀ w, (Op.stringOp .add ⟨p.toArray⟩ ⟨#[47]⟩).run Tryd.prog w = .ok (.string ⟨(p ++ [47]).toArray⟩) w := fun w => run_string_add_lists w p [47] (by omega) (by simp)
  have k2 : ∀ w, (Op.stringOp .add ⟨(p ++ [47]).toArray⟩ ⟨t.toArray⟩).run Tryd.prog w = .ok (.string ⟨(p ++ 47 :: t).toArray⟩) w := fun w => by
    have := run_string_add_lists (P := Tryd.prog) w (p ++ [47]) t (by simp; omega) (by omega)
    rw [List.append_assoc] at this
    exact this
  rcases hp with ⟨sn, hp⟩ | ⟨sn, hp⟩
  · have dx : decide (n < 0) = true := by simp; omega
    rw [← hp] at k0; clear hp
    by_cases h : d = 1
    · subst h
      rw [if_pos rfl, List.append_nil]
      go_enter Tryd.func12, Tryd.ntmps12
      go_wp2_with (first
        | (go_at_call 14; with_reducible refine (HV.out _).mono ?_; rintro e w1 ⟨rfl, hg1⟩; obtain ⟨hc1, hf1⟩ := hg1.cells; have hz1 := hg1.size; (try simp at hz1); (try have hl1_0_0 : w.heap.size < w1.heap.size := by omega); (try have hm1_0_0 : w.heap.size ≤ w1.heap.size := by omega); (try have hl1_0_1 : w.heap.size + 1 < w1.heap.size := by omega); (try have hl1_0_2 : w.heap.size + 2 < w1.heap.size := by omega))
        | (go_at_call 23; with_reducible refine (HM.out _).mono ?_; rintro e w' ⟨rfl, rfl⟩)
        | (go_at_call 27; with_reducible refine (HN.out _).mono ?_; rintro e w2 ⟨rfl, hg2⟩; obtain ⟨hc2, hf2⟩ := hg2.cells; have hz2 := hg2.size; (try simp at hz2); (try have hl2_0_0 : w.heap.size < w2.heap.size := by omega); (try have hm2_0_0 : w.heap.size ≤ w2.heap.size := by omega); (try have hl2_0_1 : w.heap.size + 1 < w2.heap.size := by omega); (try have hl2_0_2 : w.heap.size + 2 < w2.heap.size := by omega); (try have hl2_1_0 : w1.heap.size < w2.heap.size := by omega); (try have hm2_1_0 : w1.heap.size ≤ w2.heap.size := by omega); (try have hl2_1_1 : w1.heap.size + 1 < w2.heap.size := by omega); (try have hl2_1_2 : w1.heap.size + 2 < w2.heap.size := by omega)))
      go_ret
      exact ⟨rfl, (by repeat (first | with_reducible exact Gr.refl _ | with_reducible assumption | refine Gr.setCell ?_ (by first | omega | (simp; done) | (simp; omega)) _ | refine Gr.alloc ?_ _ | refine Gr.drew ?_ | refine Gr.drewN ?_ _ | refine Gr.trans ?_ (by with_reducible assumption)))⟩
    · have q : decide (1 < d) = true := decide_eq_true (by omega)
      rw [if_neg h]
      clear h
      go_enter Tryd.func12, Tryd.ntmps12
      go_wp2_with (first
        | (go_at_call 14; with_reducible refine (HV.out _).mono ?_; rintro e w1 ⟨rfl, hg1⟩; obtain ⟨hc1, hf1⟩ := hg1.cells; have hz1 := hg1.size; (try simp at hz1); (try have hl1_0_0 : w.heap.size < w1.heap.size := by omega); (try have hm1_0_0 : w.heap.size ≤ w1.heap.size := by omega); (try have hl1_0_1 : w.heap.size + 1 < w1.heap.size := by omega); (try have hl1_0_2 : w.heap.size + 2 < w1.heap.size := by omega))
        | (go_at_call 23; with_reducible refine (HM.out _).mono ?_; rintro e w' ⟨rfl, rfl⟩)
        | (go_at_call 27; with_reducible refine (HN.out _).mono ?_; rintro e w2 ⟨rfl, hg2⟩; obtain ⟨hc2, hf2⟩ := hg2.cells; have hz2 := hg2.size; (try simp at hz2); (try have hl2_0_0 : w.heap.size < w2.heap.size := by omega); (try have hm2_0_0 : w.heap.size ≤ w2.heap.size := by omega); (try have hl2_0_1 : w.heap.size + 1 < w2.heap.size := by omega); (try have hl2_0_2 : w.heap.size + 2 < w2.heap.size := by omega); (try have hl2_1_0 : w1.heap.size < w2.heap.size := by omega); (try have hm2_1_0 : w1.heap.size ≤ w2.heap.size := by omega); (try have hl2_1_1 : w1.heap.size + 1 < w2.heap.size := by omega); (try have hl2_1_2 : w1.heap.size + 2 < w2.heap.size := by omega))
        | (go_at_call 27; with_reducible refine (HD.out _).mono ?_; rintro e w3 ⟨rfl, hg3⟩; obtain ⟨hc3, hf3⟩ := hg3.cells; have hz3 := hg3.size; (try simp at hz3); (try have hl3_0_0 : w.heap.size < w3.heap.size := by omega); (try have hm3_0_0 : w.heap.size ≤ w3.heap.size := by omega); (try have hl3_0_1 : w.heap.size + 1 < w3.heap.size := by omega); (try have hl3_0_2 : w.heap.size + 2 < w3.heap.size := by omega); (try have hl3_1_0 : w1.heap.size < w3.heap.size := by omega); (try have hm3_1_0 : w1.heap.size ≤ w3.heap.size := by omega); (try have hl3_1_1 : w1.heap.size + 1 < w3.heap.size := by omega); (try have hl3_1_2 : w1.heap.size + 2 < w3.heap.size := by omega); (try have hl3_2_0 : w2.heap.size < w3.heap.size := by omega); (try have hm3_2_0 : w2.heap.size ≤ w3.heap.size := by omega); (try have hl3_2_1 : w2.heap.size + 1 < w3.heap.size := by omega); (try have hl3_2_2 : w2.heap.size + 2 < w3.heap.size := by omega)))
      go_ret
      exact ⟨rfl, (by repeat (first | with_reducible exact Gr.refl _ | with_reducible assumption | refine Gr.setCell ?_ (by first | omega | (simp; done) | (simp; omega)) _ | refine Gr.alloc ?_ _ | refine Gr.drew ?_ | refine Gr.drewN ?_ _ | refine Gr.trans ?_ (by with_reducible assumption)))⟩
  · have dx : decide (n < 0) = false := by simp; omega
    subst hp
    by_cases h : d = 1
    · subst h
      rw [if_pos rfl, List.append_nil]
      go_enter Tryd.func12, Tryd.ntmps12
      go_wp2_with (first
        | (go_at_call 14; with_reducible refine (HV.out _).mono ?_; rintro e w1 ⟨rfl, hg1⟩; obtain ⟨hc1, hf1⟩ := hg1.cells; have hz1 := hg1.size; (try simp at hz1); (try have hl1_0_0 : w.heap.size < w1.heap.size := by omega); (try have hm1_0_0 : w.heap.size ≤ w1.heap.size := by omega); (try have hl1_0_1 : w.heap.size + 1 < w1.heap.size := by omega); (try have hl1_0_2 : w.heap.size + 2 < w1.heap.size := by omega))
        | (go_at_call 23; with_reducible refine (HM.out _).mono ?_; rintro e w' ⟨rfl, rfl⟩)
        | (go_at_call 27; with_reducible refine (HN.out _).mono ?_; rintro e w2 ⟨rfl, hg2⟩; obtain ⟨hc2, hf2⟩ := hg2.cells; have hz2 := hg2.size; (try simp at hz2); (try have hl2_0_0 : w.heap.size < w2.heap.size := by omega); (try have hm2_0_0 : w.heap.size ≤ w2.heap.size := by omega); (try have hl2_0_1 : w.heap.size + 1 < w2.heap.size := by omega); (try have hl2_0_2 : w.heap.size + 2 < w2.heap.size := by omega); (try have hl2_1_0 : w1.heap.size < w2.heap.size := by omega); (try have hm2_1_0 : w1.heap.size ≤ w2.heap.size := by omega); (try have hl2_1_1 : w1.heap.size + 1 < w2.heap.size := by omega); (try have hl2_1_2 : w1.heap.size + 2 < w2.heap.size := by omega)))
      go_ret
      exact ⟨rfl, (by repeat (first | with_reducible exact Gr.refl _ | with_reducible assumption | refine Gr.setCell ?_ (by first | omega | (simp; done) | (simp; omega)) _ | refine Gr.alloc ?_ _ | refine Gr.drew ?_ | refine Gr.drewN ?_ _ | refine Gr.trans ?_ (by with_reducible assumption)))⟩
    · have q : decide (1 < d) = true := decide_eq_true (by omega)
      rw [if_neg h]
      clear h
      go_enter Tryd.func12, Tryd.ntmps12
      go_wp2_with (first
        | (go_at_call 14; with_reducible refine (HV.out _).mono ?_; rintro e w1 ⟨rfl, hg1⟩; obtain ⟨hc1, hf1⟩ := hg1.cells; have hz1 := hg1.size; (try simp at hz1); (try have hl1_0_0 : w.heap.size < w1.heap.size := by omega); (try have hm1_0_0 : w.heap.size ≤ w1.heap.size := by omega); (try have hl1_0_1 : w.heap.size + 1 < w1.heap.size := by omega); (try have hl1_0_2 : w.heap.size + 2 < w1.heap.size := by omega))
        | (go_at_call 23; with_reducible refine (HM.out _).mono ?_; rintro e w' ⟨rfl, rfl⟩)
        | (go_at_call 27; with_reducible refine (HN.out _).mono ?_; rintro e w2 ⟨rfl, hg2⟩; obtain ⟨hc2, hf2⟩ := hg2.cells; have hz2 := hg2.size; (try simp at hz2); (try have hl2_0_0 : w.heap.size < w2.heap.size := by omega); (try have hm2_0_0 : w.heap.size ≤ w2.heap.size := by omega); (try have hl2_0_1 : w.heap.size + 1 < w2.heap.size := by omega); (try have hl2_0_2 : w.heap.size + 2 < w2.heap.size := by omega); (try have hl2_1_0 : w1.heap.size < w2.heap.size := by omega); (try have hm2_1_0 : w1.heap.size ≤ w2.heap.size := by omega); (try have hl2_1_1 : w1.heap.size + 1 < w2.heap.size := by omega); (try have hl2_1_2 : w1.heap.size + 2 < w2.heap.size := by omega))
        | (go_at_call 27; with_reducible refine (HD.out _).mono ?_; rintro e w3 ⟨rfl, hg3⟩; obtain ⟨hc3, hf3⟩ := hg3.cells; have hz3 := hg3.size; (try simp at hz3); (try have hl3_0_0 : w.heap.size < w3.heap.size := by omega); (try have hm3_0_0 : w.heap.size ≤ w3.heap.size := by omega); (try have hl3_0_1 : w.heap.size + 1 < w3.heap.size := by omega); (try have hl3_0_2 : w.heap.size + 2 < w3.heap.size := by omega); (try have hl3_1_0 : w1.heap.size < w3.heap.size := by omega); (try have hm3_1_0 : w1.heap.size ≤ w3.heap.size := by omega); (try have hl3_1_1 : w1.heap.size + 1 < w3.heap.size := by omega); (try have hl3_1_2 : w1.heap.size + 2 < w3.heap.size := by omega); (try have hl3_2_0 : w2.heap.size < w3.heap.size := by omega); (try have hm3_2_0 : w2.heap.size ≤ w3.heap.size := by omega); (try have hl3_2_1 : w2.heap.size + 1 < w3.heap.size := by omega); (try have hl3_2_2 : w2.heap.size + 2 < w3.heap.size := by omega)))
      go_ret
      exact ⟨rfl, (by repeat (first | with_reducible exact Gr.refl _ | with_reducible assumption | refine Gr.setCell ?_ (by first | omega | (simp; done) | (simp; omega)) _ | refine Gr.alloc ?_ _ | refine Gr.drew ?_ | refine Gr.drewN ?_ _ | refine Gr.trans ?_ (by with_reducible assumption)))⟩

theorem itoa_len {n : Int} (h0 : -9223372036854775808 ≤ n) (h1 : n ≤ 9223372036854775807) : (itoa n).length ≤ 22 := by
  unfold itoa
  split
  · have := dec_len n.natAbs (by omega)
    simp only [List.length_cons]
    omega
  · have := dec_len n.toNat (by omega)
    omega
theorem format_any (n d : Int) (w : World) (hT : Tabs w) (hn : I64 n) (hd : I64 d) :
    Calls Tryd.prog 11 #[.agg #[.int .i64 n, .int .i64 d]] w fun e w' => e = .returned (.string ⟨(fmtV n d).toArray⟩) ∧ Gr w w' := by
  have HV := fun w => valid_any n d w hn hd
  unfold fmtV
  cases v : vB n d
  · rw [v] at HV
    exact format_no n d w HV
  · rw [v] at HV
    have l1 := itoa_len hn.1 hn.2
    have l2 := itoa_len hd.1 hd.2
    exact format_core n d (itoa n) (itoa d) w hT (by omega) (by omega) HV (fun w hT => fint_any n w hT hn.1 hn.2) (fun w hT => fint_any d w hT hd.1 hd.2)
theorem rformat_any (n d : Int) (w : World) (hn : I64 n) (hd : I64 d) :
    Calls Tryd.prog 12 #[.agg #[.int .i64 n, .int .i64 d]] w fun e w' => e = .returned (.string ⟨(fmtV n d).toArray⟩) ∧ Gr w w' := by
  have HV := fun w => rvalid_any n d w hn hd
  unfold fmtV
  cases v : vB n d
  · rw [v] at HV
    exact rformat_no n d w HV
  · rw [v] at HV
    obtain ⟨d1, _, _⟩ := vB_inv v
    have hd2 := hd.2
    have hn1 := hn.1
    have hn2 := hn.2
    have l1 := dec_len n.natAbs (by omega)
    have l2 := dec_len d.natAbs (by omega)
    have e1 : mg n = (n.natAbs : Int) := mg_abs n
    have e2 : d = (d.natAbs : Int) := by omega
    have ed : itoa d = decDigits d.natAbs := by
      unfold itoa
      rw [if_neg (by omega)]
      congr 1
      omega
    have hp : (n < 0 ∧ itoa n = 45 :: decDigits n.natAbs) ∨ (0 ≤ n ∧ itoa n = decDigits n.natAbs) := by
      unfold itoa
      by_cases h : n < 0
      · exact .inl ⟨h, if_pos h⟩
      · refine .inr ⟨by omega, ?_⟩
        rw [if_neg h]
        congr 1
        omega
    have HM := fun w => mag_any n w hn.1 hn.2
    rw [e1] at HM
    have core := rformat_core n d (n.natAbs : Int) (decDigits n.natAbs) (decDigits d.natAbs) (itoa n) w (by omega) (by omega) hp d1 hd.2 HV HM (fun w => decimal_any n.natAbs w (by omega)) (fun w => by
      have := decimal_any d.natAbs w (by omega)
      rw [← e2] at this
      exact this)
    rw [if_pos rfl]
    unfold fmtL
    rw [ed]
    exact core
end Go.Proofs.YtclfiaemjdflbaaDoor
