
/-
  Contract of formatTime of package captions.
  Conditions: the rate is suitable; the frame is a frame of a film.
-/
import Derived.Test.YthadhmhbbfjomaaGreatDoorWalkSu
import Derived.Test.YthadhmhbbfjomaaGreatDoorWalkRp
namespace Go.Proofs.YthadhmhbbfjomaaGreatDoor
open Go.RowKit Go.Lib
set_option linter.unusedSimpArgs false
set_option linter.unusedVariables false

/-- the millisecond at which a frame begins -/
def msQ (n num den : Int) : Int := (2 * (n * (1000 * den)) + num) / (2 * num)
/-- the text of a millisecond -/
def timeT (ms : Int) : List UInt8 := padL 2 (ms / 1000 / 3600) ++ 58 :: (padL 2 (ms / 1000 / 60 % 60) ++ 58 :: (padL 2 (ms / 1000 % 60) ++ 44 :: padL 3 (ms % 1000)))
theorem ret_tup {a b : ByteArray} {v : Value} (h : a = b) : Ending.returned (.tuple #[.string a, v]) = .returned (.tuple #[.string b, v]) := by rw [h]
theorem padL_len (wd : Nat) (n : Int) (h0 : 0 ≤ n) (hw : (wd = 2 ∧ n < 100) ∨ (wd = 3 ∧ n < 1000)) : (padL wd n).length = wd := by
  have h3 := itoa_len ⟨n.toNat, by omega⟩
  have hn : ((⟨n.toNat, by omega⟩ : Fin 1000) : Int) = n := by show ((n.toNat : Nat) : Int) = n; omega
  have e : (itoa ((⟨n.toNat, by omega⟩ : Fin 1000) : Int)) = itoa n := by rw [hn]
  rw [e] at h3
  have h4 : n < 100 → (itoa n).length ≤ 2 := fun h => h3.2.1 (by show n.toNat < 100; omega)
  unfold padL
  rw [List.length_append, List.length_replicate]
  omega
set_option maxRecDepth 20000 in
set_option maxHeartbeats 4000000 in
theorem ft_core (n num den ms : Int) (t1 t2 t3 t4 : ByteArray) (w : World) (hT : Pow w) (h0 : 0 ≤ ms) (hm : ms < 360000000) (z1 : t1.size ≤ 3) (z2 : t2.size ≤ 3) (z3 : t3.size ≤ 3) (z4 : t4.size ≤ 3)
    (HPO : ∀ w, Calls Tryz.prog 67 #[.int .i64 n, .agg #[.int .i64 num, .int .i64 den], .agg #[.int .i64 1000, .int .i64 1]] w fun e w' => e = .returned (.tuple #[.int .i64 ms, .int .i64 0]) ∧ Gr w w')
    (H1 : ∀ w, Pow w → Calls Tryz.prog 69 #[.int .i64 (ms / 1000 / 3600), .int .i64 2] w fun e w' => e = .returned (.string t1) ∧ Gr w w')
    (H2 : ∀ w, Pow w → Calls Tryz.prog 69 #[.int .i64 (ms / 1000 / 60 % 60), .int .i64 2] w fun e w' => e = .returned (.string t2) ∧ Gr w w')
    (H3 : ∀ w, Pow w → Calls Tryz.prog 69 #[.int .i64 (ms / 1000 % 60), .int .i64 2] w fun e w' => e = .returned (.string t3) ∧ Gr w w')
    (H4 : ∀ w, Pow w → Calls Tryz.prog 69 #[.int .i64 (ms % 1000), .int .i64 3] w fun e w' => e = .returned (.string t4) ∧ Gr w w') :
    Calls Tryz.prog 39 #[.int .i64 n, .agg #[.int .i64 num, .int .i64 den]] w fun e w' => e = .returned (.tuple #[.string ⟨(t1.data.toList ++ 58 :: (t2.data.toList ++ 58 :: (t3.data.toList ++ 44 :: t4.data.toList))).toArray⟩, .int .i64 0]) ∧ Gr w w' := by
  have HPO := Lib.hid HPO
  have HPS := Lib.hid perSecond_any
  have H1 := Lib.hid H1
  have H2 := Lib.hid H2
  have H3 := Lib.hid H3
  have H4 := Lib.hid H4
  have hT := Lib.hid (Pow.gr ((Gr.refl w).alloc (.cells #[.int .i64 num, .int .i64 den] 27)) hT)
  have q1 : decide (360000000 ≤ ms) = false := decide_eq_false (by omega)
  have y1 : (⟨#[58]⟩ : ByteArray).size = 1 := rfl
  have y2 : (⟨#[44]⟩ : ByteArray).size = 1 := rfl
  go_enter Tryz.func39, Tryz.ntmps39
  go_wp2
  refine wp_region_gr (by kernel_rfl) (by kernel_rfl) (fun hq1 hq2 => ?_)
  repeat (first | go_big_quiet_skip | (go_big_quiet_want; go_big_quiet_op; first | go_big_quiet_on | (apply Exists.intro; refine ⟨fun _ => ?_, ?_⟩; (· (first | (go_at_call 68; exact gr_call (HPS.out _)) | (go_at_call 67; exact gr_call (HPO.out _)))); go_big_quiet_on)))
  refine wpQuiet_nil ?_
  clear hq1 hq2
  rintro w1 ⟨⟨_, hg1⟩, rfl⟩
  obtain ⟨hc1, hf1⟩ := hg1.cells
  have hz1 := hg1.size
  (try simp at hz1); (try have hl1_0_0 : w.heap.size < w1.heap.size := by omega); (try have hm1_0_0 : w.heap.size ≤ w1.heap.size := by omega); (try have hl1_0_1 : w.heap.size + 1 < w1.heap.size := by omega); (try have hl1_0_2 : w.heap.size + 2 < w1.heap.size := by omega)
  have hT1 := Lib.hid (Pow.gr hg1 hT.out)
  clear hc1 hf1
  go_wp2_with (first
    | (go_at_call 69; (with_reducible refine (H1.out w1 hT1.out).mono ?_); rintro e w2 ⟨rfl, hg2⟩; have hT2 := Lib.hid (Pow.gr hg2 hT1.out))
    | (go_at_call 69; (with_reducible refine (H2.out w2 hT2.out).mono ?_); rintro e w3 ⟨rfl, hg3⟩; have hT3 := Lib.hid (Pow.gr hg3 hT2.out))
    | (go_at_call 69; (with_reducible refine (H3.out w3 hT3.out).mono ?_); rintro e w4 ⟨rfl, hg4⟩; have hT4 := Lib.hid (Pow.gr hg4 hT3.out))
    | (go_at_call 69; (with_reducible refine (H4.out w4 hT4.out).mono ?_); rintro e w5 ⟨rfl, hg5⟩))
  go_ret2
  exact ⟨ret_tup (ba_ext (by simp)), (by repeat (first | with_reducible exact Gr.refl _ | with_reducible assumption | refine Gr.setCell ?_ (by first | omega | (simp; done) | (simp; omega)) _ | refine Gr.alloc ?_ _ | refine Gr.drew ?_ | refine Gr.drewN ?_ _ | refine Gr.trans ?_ (by with_reducible assumption)))⟩
set_option maxHeartbeats 2000000 in
theorem ft_big (n num den ms : Int) (w : World) (hm : 360000000 ≤ ms)
    (HPO : ∀ w, Calls Tryz.prog 67 #[.int .i64 n, .agg #[.int .i64 num, .int .i64 den], .agg #[.int .i64 1000, .int .i64 1]] w fun e w' => e = .returned (.tuple #[.int .i64 ms, .int .i64 0]) ∧ Gr w w') :
    Calls Tryz.prog 39 #[.int .i64 n, .agg #[.int .i64 num, .int .i64 den]] w fun e w' => e = .returned (.tuple #[.string ⟨#[]⟩, .int .i64 2]) ∧ Gr w w' := by
  have HPO := Lib.hid HPO
  have HPS := Lib.hid perSecond_any
  have q1 : decide (360000000 ≤ ms) = true := decide_eq_true (by omega)
  go_enter Tryz.func39, Tryz.ntmps39
  go_wp2
  refine wp_region_gr (by kernel_rfl) (by kernel_rfl) (fun hq1 hq2 => ?_)
  repeat (first | go_big_quiet_skip | (go_big_quiet_want; go_big_quiet_op; first | go_big_quiet_on | (apply Exists.intro; refine ⟨fun _ => ?_, ?_⟩; (· (first | (go_at_call 68; exact gr_call (HPS.out _)) | (go_at_call 67; exact gr_call (HPO.out _)))); go_big_quiet_on)))
  refine wpQuiet_nil ?_
  clear hq1 hq2
  rintro w1 ⟨⟨_, hg1⟩, rfl⟩
  obtain ⟨hc1, hf1⟩ := hg1.cells
  have hz1 := hg1.size
  (try simp at hz1); (try have hl1_0_0 : w.heap.size < w1.heap.size := by omega); (try have hm1_0_0 : w.heap.size ≤ w1.heap.size := by omega); (try have hl1_0_1 : w.heap.size + 1 < w1.heap.size := by omega); (try have hl1_0_2 : w.heap.size + 2 < w1.heap.size := by omega)
  go_wp2
  go_ret2
  exact ⟨rfl, (by repeat (first | with_reducible exact Gr.refl _ | with_reducible assumption | refine Gr.setCell ?_ (by first | omega | (simp; done) | (simp; omega)) _ | refine Gr.alloc ?_ _ | refine Gr.drew ?_ | refine Gr.drewN ?_ _ | refine Gr.trans ?_ (by with_reducible assumption)))⟩
theorem suB_out {n d : Int} (h : suB n d = true) : vB n d = true ∧ 1 ≤ n ∧ n ≤ 1048576 ∧ 1 ≤ d ∧ d ≤ 65536 ∧ n ≤ 240 * d := by
  unfold suB usB at h
  simp only [Bool.and_eq_true, decide_eq_true_eq] at h
  exact ⟨h.1.1, h.1.2.1, h.1.2.2.1, (vB_inv h.1.1).1, h.1.2.2.2, h.2⟩
theorem ms_bounds {n num den : Int} (h0 : 0 ≤ n) (h1 : n ≤ 2147483647) (hs : suB num den = true) : 0 ≤ n * (1000 * den) ∧ n * (1000 * den) ≤ 140737488289792000 ∧ 0 ≤ msQ n num den ∧ msQ n num den ≤ 140737488289792001 := by
  obtain ⟨_, n1, n2, d1, d2, _⟩ := suB_out hs
  have a1 : n * (1000 * den) ≤ 2147483647 * 65536000 := Int.mul_le_mul h1 (by omega) (by omega) (by omega)
  have a0 : 0 ≤ n * (1000 * den) := Int.mul_nonneg h0 (by omega)
  refine ⟨a0, by omega, ?_, ?_⟩
  · unfold msQ
    exact Int.ediv_nonneg (by omega) (by omega)
  · unfold msQ
    have : (2 * (n * (1000 * den)) + num) / (2 * num) < 140737488289792002 := Int.ediv_lt_of_lt_mul (by omega) (by
      have h5 : 140737488289792002 * (2 * 1) ≤ 140737488289792002 * (2 * num) := Int.mul_le_mul_of_nonneg_left (by omega) (by omega)
      have h6 : 140737488289792002 * (2 * num) = 281474976579584004 * num := by omega
      have h7 : 281474976579584004 * 1 ≤ 281474976579584004 * num := Int.mul_le_mul_of_nonneg_left n1 (by omega)
      omega)
    omega
theorem pos_ms (n num den : Int) (w : World) (h0 : 0 ≤ n) (h1 : n ≤ 2147483647) (hs : suB num den = true) :
    Calls Tryz.prog 67 #[.int .i64 n, .agg #[.int .i64 num, .int .i64 den], .agg #[.int .i64 1000, .int .i64 1]] w fun e w' => e = .returned (.tuple #[.int .i64 (msQ n num den), .int .i64 0]) ∧ Gr w w' := by
  obtain ⟨hv, n1, n2, d1, d2, _⟩ := suB_out hs
  have hb := ms_bounds h0 h1 hs
  have hf : scB num den = true := by
    unfold scB
    rw [hv, Bool.true_and]
    exact decide_eq_true (by omega)
  have ht : scB 1000 1 = true := by decide +kernel
  have := position_yes n num den 1000 1 w ⟨by omega, by omega⟩ hf ht
  have hp : psP n (1000 * den) (1 * num) = true := by
    unfold psP
    rw [Int.one_mul]
    exact decide_eq_true ⟨by have := hb.2.2.1; unfold msQ at this; omega, by have := hb.2.2.2; unfold msQ at this; omega⟩
  unfold psQ psE at this
  rw [hp, if_pos rfl, if_pos rfl, Int.one_mul] at this
  exact this
/-- what formatTime hands back -/
def ftS (n num den : Int) : List UInt8 := if msQ n num den < 360000000 then timeT (msQ n num den) else []
def ftE (n num den : Int) : Int := if msQ n num den < 360000000 then 0 else 2
theorem ft_any (n num den : Int) (w : World) (hT : Pow w) (h0 : 0 ≤ n) (h1 : n ≤ 2147483647) (hs : suB num den = true) :
    Calls Tryz.prog 39 #[.int .i64 n, .agg #[.int .i64 num, .int .i64 den]] w fun e w' => e = .returned (.tuple #[.string ⟨(ftS n num den).toArray⟩, .int .i64 (ftE n num den)]) ∧ Gr w w' := by
  have hb := ms_bounds h0 h1 hs
  have HP := fun w => pos_ms n num den w h0 h1 hs
  unfold ftS ftE
  generalize msQ n num den = ms at hb HP
  by_cases h : ms < 360000000
  · rw [if_pos h, if_pos h]
    have hm := hb.2.2.1
    have l1 := padL_len 2 (ms / 1000 / 3600) (by omega) (.inl ⟨rfl, by omega⟩)
    have l2 := padL_len 2 (ms / 1000 / 60 % 60) (by omega) (.inl ⟨rfl, by omega⟩)
    have l3 := padL_len 2 (ms / 1000 % 60) (by omega) (.inl ⟨rfl, by omega⟩)
    have l4 := padL_len 3 (ms % 1000) (by omega) (.inr ⟨rfl, by omega⟩)
    have := ft_core n num den ms ⟨(padL 2 (ms / 1000 / 3600)).toArray⟩ ⟨(padL 2 (ms / 1000 / 60 % 60)).toArray⟩ ⟨(padL 2 (ms / 1000 % 60)).toArray⟩ ⟨(padL 3 (ms % 1000)).toArray⟩ w hT hm h
      (by show (padL _ _).length ≤ 3; omega) (by show (padL _ _).length ≤ 3; omega) (by show (padL _ _).length ≤ 3; omega) (by show (padL _ _).length ≤ 3; omega) HP
      (fun w hT => pad_any 2 _ w hT (by omega) (.inl ⟨rfl, by omega⟩)) (fun w hT => pad_any 2 _ w hT (by omega) (.inl ⟨rfl, by omega⟩)) (fun w hT => pad_any 2 _ w hT (by omega) (.inl ⟨rfl, by omega⟩)) (fun w hT => pad_any 3 _ w hT (by omega) (.inr ⟨rfl, by omega⟩))
    exact this
  · rw [if_neg h, if_neg h]
    exact ft_big n num den ms w (by omega) HP
end Go.Proofs.YthadhmhbbfjomaaGreatDoor
