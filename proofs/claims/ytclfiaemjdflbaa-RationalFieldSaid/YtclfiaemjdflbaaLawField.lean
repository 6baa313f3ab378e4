/-
  Walk of the law RationalField: it returns true.
  Conditions: none beyond the kinds of the arguments.
-/
import Derived.Test.YtclfiaemjdflbaaWalkZ
import Derived.Test.YtclfiaemjdflbaaWalkI
import Derived.Test.YtclfiaemjdflbaaMathI
import Derived.Test.YtclfiaemjdflbaaCel
import Derived.Deep.DeepCutAuto
namespace Go.Proofs.Ytclfiaemjdflbaa
open Go.RowKit
set_option linter.unusedSimpArgs false
set_option linter.unusedVariables false

set_option maxRecDepth 100000 in
set_option maxHeartbeats 16000000 in
theorem lawField_core (an ad bn bd cn cd x1 y1 z1 x3 y3 z3 x4 y4 z4 x5 y5 z5 x6 y6 z6 x7 y7 z7 x9 y9 z9 x10 y10 z10 x11 y11 z11 x12 y12 z12 x13 y13 z13 : Int) (w : World)
    (HA : ∀ w, Calls Try.prog 16 #[.agg #[.int .i64 an, .int .i64 ad]] w fun e w' => e = .returned (.bool true) ∧ Gr w w')
    (HB : ∀ w, Calls Try.prog 16 #[.agg #[.int .i64 bn, .int .i64 bd]] w fun e w' => e = .returned (.bool true) ∧ Gr w w')
    (HC : ∀ w, Calls Try.prog 16 #[.agg #[.int .i64 cn, .int .i64 cd]] w fun e w' => e = .returned (.bool true) ∧ Gr w w')
    (P1 : ∀ w, Calls Try.prog 31 #[.agg #[.int .i64 an, .int .i64 ad], .agg #[.int .i64 bn, .int .i64 bd]] w fun e w' => e = .returned (.tuple #[.agg #[.int .i64 x1, .int .i64 y1], .int .i64 z1]) ∧ Gr w w')
    (P2 : ∀ w, Calls Try.prog 31 #[.agg #[.int .i64 bn, .int .i64 bd], .agg #[.int .i64 an, .int .i64 ad]] w fun e w' => e = .returned (.tuple #[.agg #[.int .i64 x1, .int .i64 y1], .int .i64 z1]) ∧ Gr w w')
    (P3 : ∀ w, Calls Try.prog 31 #[.agg #[.int .i64 bn, .int .i64 bd], .agg #[.int .i64 cn, .int .i64 cd]] w fun e w' => e = .returned (.tuple #[.agg #[.int .i64 x3, .int .i64 y3], .int .i64 z3]) ∧ Gr w w')
    (P4 : ∀ w, Calls Try.prog 31 #[.agg #[.int .i64 x1, .int .i64 y1], .agg #[.int .i64 cn, .int .i64 cd]] w fun e w' => e = .returned (.tuple #[.agg #[.int .i64 x4, .int .i64 y4], .int .i64 z4]) ∧ Gr w w')
    (P5 : ∀ w, Calls Try.prog 31 #[.agg #[.int .i64 an, .int .i64 ad], .agg #[.int .i64 x3, .int .i64 y3]] w fun e w' => e = .returned (.tuple #[.agg #[.int .i64 x5, .int .i64 y5], .int .i64 z5]) ∧ Gr w w')
    (H5 : z1 = 0 → z3 = 0 → x5 = x4 ∧ y5 = y4 ∧ z5 = z4)
    (P6 : ∀ w, Calls Try.prog 32 #[.agg #[.int .i64 x1, .int .i64 y1], .agg #[.int .i64 bn, .int .i64 bd]] w fun e w' => e = .returned (.tuple #[.agg #[.int .i64 x6, .int .i64 y6], .int .i64 z6]) ∧ Gr w w')
    (H6 : z1 = 0 → x6 = an ∧ y6 = ad ∧ z6 = 0)
    (P7 : ∀ w, Calls Try.prog 34 #[.agg #[.int .i64 an, .int .i64 ad], .agg #[.int .i64 bn, .int .i64 bd]] w fun e w' => e = .returned (.tuple #[.agg #[.int .i64 x7, .int .i64 y7], .int .i64 z7]) ∧ Gr w w')
    (P8 : ∀ w, Calls Try.prog 34 #[.agg #[.int .i64 bn, .int .i64 bd], .agg #[.int .i64 an, .int .i64 ad]] w fun e w' => e = .returned (.tuple #[.agg #[.int .i64 x7, .int .i64 y7], .int .i64 z7]) ∧ Gr w w')
    (P9 : ∀ w, Calls Try.prog 35 #[.agg #[.int .i64 x7, .int .i64 y7], .agg #[.int .i64 bn, .int .i64 bd]] w fun e w' => e = .returned (.tuple #[.agg #[.int .i64 x9, .int .i64 y9], .int .i64 z9]) ∧ Gr w w')
    (H9 : z7 = 0 → bn ≠ 0 → x9 = an ∧ y9 = ad ∧ z9 = 0)
    (P10 : ∀ w, Calls Try.prog 34 #[.agg #[.int .i64 an, .int .i64 ad], .agg #[.int .i64 cn, .int .i64 cd]] w fun e w' => e = .returned (.tuple #[.agg #[.int .i64 x10, .int .i64 y10], .int .i64 z10]) ∧ Gr w w')
    (P11 : ∀ w, Calls Try.prog 34 #[.agg #[.int .i64 bn, .int .i64 bd], .agg #[.int .i64 cn, .int .i64 cd]] w fun e w' => e = .returned (.tuple #[.agg #[.int .i64 x11, .int .i64 y11], .int .i64 z11]) ∧ Gr w w')
    (P12 : ∀ w, Calls Try.prog 34 #[.agg #[.int .i64 x1, .int .i64 y1], .agg #[.int .i64 cn, .int .i64 cd]] w fun e w' => e = .returned (.tuple #[.agg #[.int .i64 x12, .int .i64 y12], .int .i64 z12]) ∧ Gr w w')
    (P13 : ∀ w, Calls Try.prog 31 #[.agg #[.int .i64 x10, .int .i64 y10], .agg #[.int .i64 x11, .int .i64 y11]] w fun e w' => e = .returned (.tuple #[.agg #[.int .i64 x13, .int .i64 y13], .int .i64 z13]) ∧ Gr w w')
    (H13 : z1 = 0 → z10 = 0 → z11 = 0 → z12 = 0 → z13 = 0 → x13 = x12 ∧ y13 = y12) :
    Calls Try.prog 11 #[.agg #[.int .i64 an, .int .i64 ad], .agg #[.int .i64 bn, .int .i64 bd], .agg #[.int .i64 cn, .int .i64 cd]] w fun e w' => e = .returned (.bool true) ∧ Gr w w' := by
  have HA := Lib.hid HA
  have HB := Lib.hid HB
  have HC := Lib.hid HC
  have P1 := Lib.hid P1
  have P2 := Lib.hid P2
  have P3 := Lib.hid P3
  have P4 := Lib.hid P4
  have P5 := Lib.hid P5
  have H5 := Lib.hid H5
  have P6 := Lib.hid P6
  have H6 := Lib.hid H6
  have P7 := Lib.hid P7
  have P8 := Lib.hid P8
  have P9 := Lib.hid P9
  have H9 := Lib.hid H9
  have P10 := Lib.hid P10
  have P11 := Lib.hid P11
  have P12 := Lib.hid P12
  have P13 := Lib.hid P13
  have H13 := Lib.hid H13
  go_enter Try.func11, Try.ntmps11
  go_upto_region 10 with (first
    | (go_at_call 16; with_reducible refine (HA.out _).mono ?_; rintro e w1 ⟨rfl, hg1⟩; obtain ⟨hc1, hf1⟩ := hg1.cells; have hz1 := hg1.size; (try simp at hz1); have hl1_0 : w.heap.size < w1.heap.size := (by omega); have hm1_0 : w.heap.size ≤ w1.heap.size := (by omega); have hl1_1 : w.heap.size + 1 < w1.heap.size := (by omega); have hm1_1 : w.heap.size + 1 ≤ w1.heap.size := (by omega); have hl1_2 : w.heap.size + 2 < w1.heap.size := (by omega); have hm1_2 : w.heap.size + 2 ≤ w1.heap.size := (by omega))
    | (go_at_call 16; with_reducible refine (HB.out _).mono ?_; rintro e w2 ⟨rfl, hg2⟩; obtain ⟨hc2, hf2⟩ := hg2.cells; have hz2 := hg2.size; (try simp at hz2); have hl2_0 : w.heap.size < w2.heap.size := (by omega); have hm2_0 : w.heap.size ≤ w2.heap.size := (by omega); have hl2_1 : w.heap.size + 1 < w2.heap.size := (by omega); have hm2_1 : w.heap.size + 1 ≤ w2.heap.size := (by omega); have hl2_2 : w.heap.size + 2 < w2.heap.size := (by omega); have hm2_2 : w.heap.size + 2 ≤ w2.heap.size := (by omega))
    | (go_at_call 16; with_reducible refine (HC.out _).mono ?_; rintro e w3 ⟨rfl, hg3⟩; obtain ⟨hc3, hf3⟩ := hg3.cells; have hz3 := hg3.size; (try simp at hz3); have hl3_0 : w.heap.size < w3.heap.size := (by omega); have hm3_0 : w.heap.size ≤ w3.heap.size := (by omega); have hl3_1 : w.heap.size + 1 < w3.heap.size := (by omega); have hm3_1 : w.heap.size + 1 ≤ w3.heap.size := (by omega); have hl3_2 : w.heap.size + 2 < w3.heap.size := (by omega); have hm3_2 : w.heap.size + 2 ≤ w3.heap.size := (by omega))
    | (go_at_call 31; with_reducible refine (P1.out _).mono ?_; rintro e w4 ⟨rfl, hg4⟩; obtain ⟨hc4, hf4⟩ := hg4.cells; have hz4 := hg4.size; (try simp at hz4); have hl4_0 : w.heap.size < w4.heap.size := (by omega); have hm4_0 : w.heap.size ≤ w4.heap.size := (by omega); have hl4_1 : w.heap.size + 1 < w4.heap.size := (by omega); have hm4_1 : w.heap.size + 1 ≤ w4.heap.size := (by omega); have hl4_2 : w.heap.size + 2 < w4.heap.size := (by omega); have hm4_2 : w.heap.size + 2 ≤ w4.heap.size := (by omega))
    | (go_at_call 31; with_reducible refine (P2.out _).mono ?_; rintro e w5 ⟨rfl, hg5⟩; obtain ⟨hc5, hf5⟩ := hg5.cells; have hz5 := hg5.size; (try simp at hz5); have hl5_0 : w.heap.size < w5.heap.size := (by omega); have hm5_0 : w.heap.size ≤ w5.heap.size := (by omega); have hl5_1 : w.heap.size + 1 < w5.heap.size := (by omega); have hm5_1 : w.heap.size + 1 ≤ w5.heap.size := (by omega); have hl5_2 : w.heap.size + 2 < w5.heap.size := (by omega); have hm5_2 : w.heap.size + 2 ≤ w5.heap.size := (by omega); have hl5_3 : w4.heap.size < w5.heap.size := (by omega); have hm5_3 : w4.heap.size ≤ w5.heap.size := (by omega))
    | (go_at_call 31; with_reducible refine (P3.out _).mono ?_; rintro e w6 ⟨rfl, hg6⟩; obtain ⟨hc6, hf6⟩ := hg6.cells; have hz6 := hg6.size; (try simp at hz6); have hl6_0 : w.heap.size < w6.heap.size := (by omega); have hm6_0 : w.heap.size ≤ w6.heap.size := (by omega); have hl6_1 : w.heap.size + 1 < w6.heap.size := (by omega); have hm6_1 : w.heap.size + 1 ≤ w6.heap.size := (by omega); have hl6_2 : w.heap.size + 2 < w6.heap.size := (by omega); have hm6_2 : w.heap.size + 2 ≤ w6.heap.size := (by omega); have hl6_3 : w4.heap.size < w6.heap.size := (by omega); have hm6_3 : w4.heap.size ≤ w6.heap.size := (by omega))
    | (go_at_call 31; with_reducible refine (P4.out _).mono ?_; rintro e w7 ⟨rfl, hg7⟩; obtain ⟨hc7, hf7⟩ := hg7.cells; have hz7 := hg7.size; (try simp at hz7); have hl7_0 : w.heap.size < w7.heap.size := (by omega); have hm7_0 : w.heap.size ≤ w7.heap.size := (by omega); have hl7_1 : w.heap.size + 1 < w7.heap.size := (by omega); have hm7_1 : w.heap.size + 1 ≤ w7.heap.size := (by omega); have hl7_2 : w.heap.size + 2 < w7.heap.size := (by omega); have hm7_2 : w.heap.size + 2 ≤ w7.heap.size := (by omega); have hl7_3 : w4.heap.size < w7.heap.size := (by omega); have hm7_3 : w4.heap.size ≤ w7.heap.size := (by omega); have hl7_4 : w6.heap.size < w7.heap.size := (by omega); have hm7_4 : w6.heap.size ≤ w7.heap.size := (by omega))
    | (go_at_call 31; with_reducible refine (P5.out _).mono ?_; rintro e w8 ⟨rfl, hg8⟩; obtain ⟨hc8, hf8⟩ := hg8.cells; have hz8 := hg8.size; (try simp at hz8); have hl8_0 : w.heap.size < w8.heap.size := (by omega); have hm8_0 : w.heap.size ≤ w8.heap.size := (by omega); have hl8_1 : w.heap.size + 1 < w8.heap.size := (by omega); have hm8_1 : w.heap.size + 1 ≤ w8.heap.size := (by omega); have hl8_2 : w.heap.size + 2 < w8.heap.size := (by omega); have hm8_2 : w.heap.size + 2 ≤ w8.heap.size := (by omega); have hl8_3 : w4.heap.size < w8.heap.size := (by omega); have hm8_3 : w4.heap.size ≤ w8.heap.size := (by omega); have hl8_4 : w6.heap.size < w8.heap.size := (by omega); have hm8_4 : w6.heap.size ≤ w8.heap.size := (by omega); have hl8_5 : w7.heap.size < w8.heap.size := (by omega); have hm8_5 : w7.heap.size ≤ w8.heap.size := (by omega)))
  go_cut [98] (fun c wx => c = .bool false ∧ wx = w8.alloc (.cells #[.int .i64 x5, .int .i64 y5] 23))
  case first => as_aux_lemma =>
    by_cases h1 : z1 = 0
    · subst h1
      by_cases h3 : z3 = 0
      · subst h3
        obtain ⟨rfl, rfl, rfl⟩ := H5.out rfl rfl
        go_wp2_with fail
        go_meet
        exact ⟨rfl, rfl⟩
      · have h3 : (z3 == 0) = false := by simpa using h3
        go_wp2_with fail
        go_meet
        exact ⟨rfl, rfl⟩
    · have h1 : (z1 == 0) = false := by simpa using h1
      go_wp2_with fail
      go_meet
      exact ⟨rfl, rfl⟩
  case rest => as_aux_lemma =>
    obtain ⟨rfl, rfl⟩ := hcut
    go_upto_region 13 with ((go_at_call 32; with_reducible refine (P6.out _).mono ?_; rintro e w9 ⟨rfl, hg9⟩; obtain ⟨hc9, hf9⟩ := hg9.cells; have hz9 := hg9.size; (try simp at hz9); have hl9_0 : w.heap.size < w9.heap.size := (by omega); have hm9_0 : w.heap.size ≤ w9.heap.size := (by omega); have hl9_1 : w.heap.size + 1 < w9.heap.size := (by omega); have hm9_1 : w.heap.size + 1 ≤ w9.heap.size := (by omega); have hl9_2 : w.heap.size + 2 < w9.heap.size := (by omega); have hm9_2 : w.heap.size + 2 ≤ w9.heap.size := (by omega); have hl9_3 : w4.heap.size < w9.heap.size := (by omega); have hm9_3 : w4.heap.size ≤ w9.heap.size := (by omega)))
    go_cut [115] (fun c wx => c = .bool false ∧ wx = w9.alloc (.cells #[.int .i64 x6, .int .i64 y6] 23))
    case first => as_aux_lemma =>
      by_cases h1 : z1 = 0
      · subst h1
        obtain ⟨rfl, rfl, rfl⟩ := H6.out rfl
        go_wp2_with fail
        go_meet
        exact ⟨rfl, rfl⟩
      · have h1 : (z1 == 0) = false := by simpa using h1
        go_wp2_with fail
        go_meet
        exact ⟨rfl, rfl⟩
    case rest => as_aux_lemma =>
      obtain ⟨rfl, rfl⟩ := hcut
      go_upto_region 19 with (first
        | (go_at_call 34; with_reducible refine (P7.out _).mono ?_; rintro e w10 ⟨rfl, hg10⟩; obtain ⟨hc10, hf10⟩ := hg10.cells; have hz10 := hg10.size; (try simp at hz10); have hl10_0 : w.heap.size < w10.heap.size := (by omega); have hm10_0 : w.heap.size ≤ w10.heap.size := (by omega); have hl10_1 : w.heap.size + 1 < w10.heap.size := (by omega); have hm10_1 : w.heap.size + 1 ≤ w10.heap.size := (by omega); have hl10_2 : w.heap.size + 2 < w10.heap.size := (by omega); have hm10_2 : w.heap.size + 2 ≤ w10.heap.size := (by omega); have hl10_3 : w4.heap.size < w10.heap.size := (by omega); have hm10_3 : w4.heap.size ≤ w10.heap.size := (by omega); have hl10_4 : w9.heap.size < w10.heap.size := (by omega); have hm10_4 : w9.heap.size ≤ w10.heap.size := (by omega))
        | (go_at_call 34; with_reducible refine (P8.out _).mono ?_; rintro e w11 ⟨rfl, hg11⟩; obtain ⟨hc11, hf11⟩ := hg11.cells; have hz11 := hg11.size; (try simp at hz11); have hl11_0 : w.heap.size < w11.heap.size := (by omega); have hm11_0 : w.heap.size ≤ w11.heap.size := (by omega); have hl11_1 : w.heap.size + 1 < w11.heap.size := (by omega); have hm11_1 : w.heap.size + 1 ≤ w11.heap.size := (by omega); have hl11_2 : w.heap.size + 2 < w11.heap.size := (by omega); have hm11_2 : w.heap.size + 2 ≤ w11.heap.size := (by omega); have hl11_3 : w4.heap.size < w11.heap.size := (by omega); have hm11_3 : w4.heap.size ≤ w11.heap.size := (by omega); have hl11_4 : w9.heap.size < w11.heap.size := (by omega); have hm11_4 : w9.heap.size ≤ w11.heap.size := (by omega); have hl11_5 : w10.heap.size < w11.heap.size := (by omega); have hm11_5 : w10.heap.size ≤ w11.heap.size := (by omega)))
      go_cut [142] (fun c wx => (c = .bool true ∧ z7 = 0 ∧ bn ≠ 0 ∨ c = .bool false) ∧ wx = w11.alloc (.cells #[.int .i64 x7, .int .i64 y7] 23))
      case first => as_aux_lemma =>
        by_cases h7 : z7 = 0
        · by_cases hb : bn = 0
          · have h7' : (z7 == 0) = true := by simpa using h7
            have hb' : (bn != 0) = false := by simpa using hb
            go_wp2_with fail
            go_meet
            exact ⟨.inr rfl, rfl⟩
          · have h7' : (z7 == 0) = true := by simpa using h7
            have hb' : (bn != 0) = true := by simpa using hb
            go_wp2_with fail
            go_meet
            exact ⟨.inl ⟨rfl, h7, hb⟩, rfl⟩
        · have h7' : (z7 == 0) = false := by simpa using h7
          go_wp2_with fail
          go_meet
          exact ⟨.inr rfl, rfl⟩
      case rest => as_aux_lemma =>
        obtain ⟨hcc, rfl⟩ := hcut
        have n9 : w9.heap.size ≠ w.heap.size := by omega
        have n9' : w.heap.size ≠ w9.heap.size := by omega
        go_upto_if 142 with fail
        go_cut [18] (fun s18 wx => ∃ z : Int, s18 = .int .i64 z ∧ Gr w9 wx)
        case first => as_aux_lemma =>
          rcases hcc with ⟨rfl, h7, hb⟩ | rfl
          · obtain ⟨rfl, rfl, rfl⟩ := H9.out h7 hb
            clear h7 hb
            go_wp2_with ((go_at_call 35; with_reducible refine (P9.out _).mono ?_; rintro e w12 ⟨rfl, hg12⟩; obtain ⟨hc12, hf12⟩ := hg12.cells; have hz12 := hg12.size; (try simp at hz12); have hl12_0 : w.heap.size < w12.heap.size := (by omega); have hm12_0 : w.heap.size ≤ w12.heap.size := (by omega); have hl12_1 : w.heap.size + 1 < w12.heap.size := (by omega); have hm12_1 : w.heap.size + 1 ≤ w12.heap.size := (by omega); have hl12_2 : w.heap.size + 2 < w12.heap.size := (by omega); have hm12_2 : w.heap.size + 2 ≤ w12.heap.size := (by omega)); obtain ⟨k5, k0, k1, k2, k3⟩ := (((((Cel.new w9 _ _).gr hg10).alloc _).gr hg11).alloc _ |>.gr hg12).two)
            go_meet
            exact ⟨0, rfl, (by repeat (first | with_reducible exact Gr.refl _ | with_reducible assumption | refine Gr.setCell ?_ (by first | omega | (simp; done) | (simp; omega)) _ | refine Gr.alloc ?_ _ | refine Gr.drew ?_ | refine Gr.drewN ?_ _ | refine Gr.trans ?_ (by with_reducible assumption)))⟩
          · go_wp2_with fail
            go_meet
            exact ⟨_, rfl, (by repeat (first | with_reducible exact Gr.refl _ | with_reducible assumption | refine Gr.setCell ?_ (by first | omega | (simp; done) | (simp; omega)) _ | refine Gr.alloc ?_ _ | refine Gr.drew ?_ | refine Gr.drewN ?_ _ | refine Gr.trans ?_ (by with_reducible assumption)))⟩
        case rest => as_aux_lemma =>
          obtain ⟨z, rfl, hg12⟩ := hcut
          clear hc10 hc11 hf10 hf11 n9 n9'
          obtain ⟨hc12, hf12⟩ := hg12.cells
          have hz12 := hg12.size
          obtain ⟨w12, rfl⟩ : ∃ w12, wc = w12 := ⟨_, rfl⟩
          have hl12_0_0 : w.heap.size < wc.heap.size := by omega
          have hl12_0_1 : w.heap.size + 1 < wc.heap.size := by omega
          have hl12_0_2 : w.heap.size + 2 < wc.heap.size := by omega
          have hl12_4_0 : w4.heap.size < wc.heap.size := by omega
          go_upto_region 27 with (first
            | (go_at_call 34; with_reducible refine (P10.out _).mono ?_; rintro e w13 ⟨rfl, hg13⟩; obtain ⟨hc13, hf13⟩ := hg13.cells; have hz13 := hg13.size; (try simp at hz13); have hl13_0 : w.heap.size < w13.heap.size := (by omega); have hm13_0 : w.heap.size ≤ w13.heap.size := (by omega); have hl13_1 : w.heap.size + 1 < w13.heap.size := (by omega); have hm13_1 : w.heap.size + 1 ≤ w13.heap.size := (by omega); have hl13_2 : w.heap.size + 2 < w13.heap.size := (by omega); have hm13_2 : w.heap.size + 2 ≤ w13.heap.size := (by omega); have hl13_3 : w4.heap.size < w13.heap.size := (by omega); have hm13_3 : w4.heap.size ≤ w13.heap.size := (by omega))
            | (go_at_call 34; with_reducible refine (P11.out _).mono ?_; rintro e w14 ⟨rfl, hg14⟩; obtain ⟨hc14, hf14⟩ := hg14.cells; have hz14 := hg14.size; (try simp at hz14); have hl14_0 : w.heap.size < w14.heap.size := (by omega); have hm14_0 : w.heap.size ≤ w14.heap.size := (by omega); have hl14_1 : w.heap.size + 1 < w14.heap.size := (by omega); have hm14_1 : w.heap.size + 1 ≤ w14.heap.size := (by omega); have hl14_2 : w.heap.size + 2 < w14.heap.size := (by omega); have hm14_2 : w.heap.size + 2 ≤ w14.heap.size := (by omega); have hl14_3 : w4.heap.size < w14.heap.size := (by omega); have hm14_3 : w4.heap.size ≤ w14.heap.size := (by omega); have hl14_4 : w13.heap.size < w14.heap.size := (by omega); have hm14_4 : w13.heap.size ≤ w14.heap.size := (by omega))
            | (go_at_call 34; with_reducible refine (P12.out _).mono ?_; rintro e w15 ⟨rfl, hg15⟩; obtain ⟨hc15, hf15⟩ := hg15.cells; have hz15 := hg15.size; (try simp at hz15); have hl15_0 : w.heap.size < w15.heap.size := (by omega); have hm15_0 : w.heap.size ≤ w15.heap.size := (by omega); have hl15_1 : w.heap.size + 1 < w15.heap.size := (by omega); have hm15_1 : w.heap.size + 1 ≤ w15.heap.size := (by omega); have hl15_2 : w.heap.size + 2 < w15.heap.size := (by omega); have hm15_2 : w.heap.size + 2 ≤ w15.heap.size := (by omega); have hl15_3 : w4.heap.size < w15.heap.size := (by omega); have hm15_3 : w4.heap.size ≤ w15.heap.size := (by omega); have hl15_4 : w13.heap.size < w15.heap.size := (by omega); have hm15_4 : w13.heap.size ≤ w15.heap.size := (by omega); have hl15_5 : w14.heap.size < w15.heap.size := (by omega); have hm15_5 : w14.heap.size ≤ w15.heap.size := (by omega))
            | (go_at_call 31; with_reducible refine (P13.out _).mono ?_; rintro e w16 ⟨rfl, hg16⟩; obtain ⟨hc16, hf16⟩ := hg16.cells; have hz16 := hg16.size; (try simp at hz16); have hl16_0 : w.heap.size < w16.heap.size := (by omega); have hm16_0 : w.heap.size ≤ w16.heap.size := (by omega); have hl16_1 : w.heap.size + 1 < w16.heap.size := (by omega); have hm16_1 : w.heap.size + 1 ≤ w16.heap.size := (by omega); have hl16_2 : w.heap.size + 2 < w16.heap.size := (by omega); have hm16_2 : w.heap.size + 2 ≤ w16.heap.size := (by omega); have hl16_3 : w4.heap.size < w16.heap.size := (by omega); have hm16_3 : w4.heap.size ≤ w16.heap.size := (by omega); have hl16_4 : w13.heap.size < w16.heap.size := (by omega); have hm16_4 : w13.heap.size ≤ w16.heap.size := (by omega); have hl16_5 : w14.heap.size < w16.heap.size := (by omega); have hm16_5 : w14.heap.size ≤ w16.heap.size := (by omega); have hl16_6 : w15.heap.size < w16.heap.size := (by omega); have hm16_6 : w15.heap.size ≤ w16.heap.size := (by omega)))
          go_cut [202] (fun c wx => c = .bool false ∧ wx = w16.alloc (.cells #[.int .i64 x13, .int .i64 y13] 23))
          case first => as_aux_lemma =>
            by_cases qz1 : z1 = 0
            · subst qz1
              by_cases qz10 : z10 = 0
              · subst qz10
                by_cases qz11 : z11 = 0
                · subst qz11
                  by_cases qz12 : z12 = 0
                  · subst qz12
                    by_cases qz13 : z13 = 0
                    · subst qz13
                      obtain ⟨rfl, rfl⟩ := H13.out rfl rfl rfl rfl rfl
                      go_wp2_with fail
                      go_meet
                      exact ⟨rfl, rfl⟩
                    · have qz13 : (z13 == 0) = false := by simpa using qz13
                      go_wp2_with fail
                      go_meet
                      exact ⟨rfl, rfl⟩
                  · have qz12 : (z12 == 0) = false := by simpa using qz12
                    go_wp2_with fail
                    go_meet
                    exact ⟨rfl, rfl⟩
                · have qz11 : (z11 == 0) = false := by simpa using qz11
                  go_wp2_with fail
                  go_meet
                  exact ⟨rfl, rfl⟩
              · have qz10 : (z10 == 0) = false := by simpa using qz10
                go_wp2_with fail
                go_meet
                exact ⟨rfl, rfl⟩
            · have qz1 : (z1 == 0) = false := by simpa using qz1
              go_wp2_with fail
              go_meet
              exact ⟨rfl, rfl⟩
          case rest => as_aux_lemma =>
            obtain ⟨rfl, rfl⟩ := hcut
            go_wp2_with (go_at_call 14; with_reducible refine (awake_any _).mono ?_; rintro e w17 ⟨rfl, hg17⟩; obtain ⟨hc17, hf17⟩ := hg17.cells; have hz17 := hg17.size; (try simp at hz17); have hl17_0 : w.heap.size < w17.heap.size := (by omega); have hm17_0 : w.heap.size ≤ w17.heap.size := (by omega); have hl17_1 : w.heap.size + 1 < w17.heap.size := (by omega); have hm17_1 : w.heap.size + 1 ≤ w17.heap.size := (by omega); have hl17_2 : w.heap.size + 2 < w17.heap.size := (by omega); have hm17_2 : w.heap.size + 2 ≤ w17.heap.size := (by omega))
            go_ret
            exact ⟨ret_bool rfl, (by repeat (first | with_reducible exact Gr.refl _ | with_reducible assumption | refine Gr.setCell ?_ (by first | omega | (simp; done) | (simp; omega)) _ | refine Gr.alloc ?_ _ | refine Gr.drew ?_ | refine Gr.drewN ?_ _ | refine Gr.trans ?_ (by with_reducible assumption)))⟩
end Go.Proofs.Ytclfiaemjdflbaa
