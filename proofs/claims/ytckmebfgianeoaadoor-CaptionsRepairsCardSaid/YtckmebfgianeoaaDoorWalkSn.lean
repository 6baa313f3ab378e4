/-
  Contract of a merge of two sorted runs of captions in place.
  Conditions: none.
-/
import Derived.Test.YtckmebfgianeoaaDoorWalkSm
import Derived.Deep.DeepCutAuto
namespace Go.Proofs.YtckmebfgianeoaaDoor
open Go.RowKit Go.Lib Go.Sort
set_option linter.unusedSimpArgs false
set_option linter.unusedVariables false

/-- what a merge is called with -/
structure MArg (k g off sz : Nat) (w0 : World) (d : Array TC) (w : World) (P A B Q : List TC) (a m b : Int) : Prop where
  S : SWK encT k w0 g off d w
  sz : d.size = sz
  l : d.toList = P ++ ((A ++ B) ++ Q)
  sA : SrtT A
  sB : SrtT B
  t : ∀ x ∈ A, ∀ y ∈ B, x.2 < y.2
  pA : 0 < A.length
  pB : 0 < B.length
  a : a = P.length
  m : m = (P.length : Int) + A.length
  b : b = (P.length : Int) + A.length + B.length
def MRes (k g off sz : Nat) (w0 : World) (w : World) (P A B Q : List TC) : Prop := ∃ (d' : Array TC) (C : List TC), d'.size = sz ∧ d'.toList = P ++ (C ++ Q) ∧ C.Perm (A ++ B) ∧ SrtT C ∧ SWK encT k w0 g off d' w

theorem cut_list {P A B Q : List TC} {u v : Nat} (hu : u ≤ A.length) (hv : v ≤ B.length) : P ++ ((A ++ B) ++ Q) = (P ++ A.take u) ++ (A.drop u ++ (B.take v ++ (B.drop v ++ Q))) := by
  conv => lhs; rw [← List.take_append_drop u A, ← List.take_append_drop v B]
  simp only [List.append_assoc]
theorem cut_list2 {P A B Q : List TC} {u v : Nat} (h : A.length ≤ u ∨ v = 0) : P ++ ((A ++ B) ++ Q) = P ++ ((A.take u ++ B.take v) ++ ((A.drop u ++ B.drop v) ++ Q)) := by
  rcases h with h | h
  · rw [List.take_of_length_le h, List.drop_of_length_le h, List.nil_append]
    conv => lhs; rw [← List.take_append_drop v B]
    simp only [List.append_assoc]
  · subst h
    rw [List.take_zero, List.drop_zero, List.append_nil]
    conv => lhs; rw [← List.take_append_drop u A]
    simp only [List.append_assoc]
theorem srt_part {A : List TC} (h : SrtT A) (u : Nat) : SrtT (A.take u) ∧ SrtT (A.drop u) := by
  have h2 := h
  rw [← List.take_append_drop u A] at h2
  unfold SrtT at h2 ⊢
  rw [List.pairwise_append] at h2
  exact ⟨h2.1, h2.2.1⟩

set_option maxHeartbeats 8000000 in
set_option maxRecDepth 1000000 in
theorem sym_core (k : Nat) (hk3 : 3 = k) (g off cap sz : Nat) (d0 d : Array TC) (w0 w : World) (R : RowK encT k w0 g off d0) (hs : d0.size = sz) (hsz : sz < 4611686018427387904) (P A B Q : List TC) (a m b : Nat) (hM : MArg k g off sz w0 d w P A B Q a m b) (hA2 : 1 < A.length) (hB2 : 1 < B.length)
    (HR : ∀ (d' : Array TC) (w' : World) (P' A' B' Q' : List TC) (a' m' b' : Int), A'.length + B'.length < A.length + B.length → MArg k g off sz w0 d' w' P' A' B' Q' a' m' b' →
      Calls Tryd.prog 103 #[.slice (some ⟨g, off, none⟩) sz cap, .int .i64 a', .int .i64 m', .int .i64 b', .func (.func 63) #[] #[]] w' fun e w'' => e = .returned (.tuple #[]) ∧ MRes k g off sz w0 w'' P' A' B' Q') :
    Calls Tryd.prog 103 #[.slice (some ⟨g, off, none⟩) sz cap, .int .i64 a, .int .i64 m, .int .i64 b, .func (.func 63) #[] #[]] w fun e w' => e = .returned (.tuple #[]) ∧ MRes k g off sz w0 w' P A B Q := by
  have eg : ∀ args w, (callFunc 63 args).run Tryd.prog w = .ok (.enter 63 args) w := enters_of Tryd.func63 (by kernel_rfl) rfl
  have mixed : Tryd.prog.follows .mixedOrders = true := by kernel_rfl
  have aE : ∀ w, (isAgg 66).run Tryd.prog w = .ok true w := Tryd.isAgg66
  have zE : ∀ w, (Go.sizeOf 66).run Tryd.prog w = .ok k w := fun w => by rw [← hk3]; exact Tryd.sizeOf66 w
  have HRot : Hid (∀ (dk : Array TC) (w' : World) (P' X Y Q' : List TC) (ai mi bi : Int), SWK encT k w0 g off dk w' → dk.toList = P' ++ (X ++ (Y ++ Q')) → dk.size = sz → 0 < X.length → 0 < Y.length → ai = P'.length → mi = (P'.length : Int) + X.length → bi = (P'.length : Int) + X.length + Y.length →
      Calls Tryd.prog 118 #[.slice (some ⟨g, off, none⟩) sz cap, .int .i64 ai, .int .i64 mi, .int .i64 bi, .func (.func 63) #[] #[]] w' fun e w'' => e = .returned (.tuple #[]) ∧ ∃ d' : Array TC, d'.toList = P' ++ (Y ++ (X ++ Q')) ∧ SWK encT k w0 g off d' w'') := fun dk w' P' X Y Q' ai mi bi h1 h2 h3 h4 h5 h6 h7 h8 => by
    subst hk3
    have := rot_any g off cap sz d0 dk w0 w' R h1 hs h3 hsz P' X Y Q' h2 h4 h5 P'.length (P'.length + X.length) (P'.length + X.length + Y.length) rfl rfl rfl
    rw [h6, h7, h8, show (P'.length : Int) + X.length + Y.length = ((P'.length + X.length + Y.length : Nat) : Int) by omega, show (P'.length : Int) + X.length = ((P'.length + X.length : Nat) : Int) by omega]
    exact this
  clear hk3
  have HR := Lib.hid HR
  obtain ⟨S, hsd, hd, hA, hB, ht, _, _, ha, hm, hb⟩ := hM
  obtain ⟨la, hla⟩ : ∃ la, A.length = la := ⟨_, rfl⟩
  obtain ⟨lb, hlb⟩ : ∃ lb, B.length = lb := ⟨_, rfl⟩
  have hz : b ≤ sz := by
    have := size_of_list hd
    simp at this
    omega
  have hx : Hid (∀ t, t < la → d[a + t]! = A[t]!) := Lib.hid (fun t ht => at_P (P := P) (A := A) (S := B ++ Q) (by rw [hd]; simp) (by omega) (by omega))
  have hy : Hid (∀ t, t < lb → d[m + t]! = B[t]!) := Lib.hid (fun t ht => at_P (P := P ++ A) (A := B) (S := Q) (by rw [hd]; simp) (by omega) (by simp; omega))
  have m1 : m ≤ a + la := by omega
  have m2 : a + la ≤ m := by omega
  have b1 : b ≤ a + la + lb := by omega
  have b2 : a + la + lb ≤ b := by omega
  have A1 : 1 < la := by omega
  have B1 : 1 < lb := by omega
  have hE : Hid (a = P.length ∧ A.length = la ∧ B.length = lb) := Lib.hid ⟨by omega, hla, hlb⟩
  have hC := Lib.hid (cmp_lays k g off sz w0)
  have S0 : Hid (SWK encT k w0 g off d w) := S
  have hd := Lib.hid hd
  have hA := Lib.hid hA
  have hB := Lib.hid hB
  have ht := Lib.hid ht
  have q0 : ((m : Int) - (a : Int) == 1) = false := by simp; omega
  have q00 : ((b : Int) - (m : Int) == 1) = false := by simp; omega
  clear S ha hm hb hla hlb hA2 hB2
  obtain ⟨mid, hmid⟩ : ∃ mid, (a + b) / 2 = mid := ⟨_, rfl⟩
  have hmid2 : ((a : Int) + (b : Int)) / 2 = (mid : Int) := by omega
  obtain ⟨h, hh⟩ : ∃ h, mid = a + h := ⟨mid - a, by omega⟩
  have h1 : mid ≤ a + h := by omega
  have h2 : a + h ≤ mid := by omega
  have h3 : 2 * h ≤ la + lb := by omega
  have h4 : la + lb ≤ 2 * h + 1 := by omega
  clear hmid hh
  obtain ⟨lo, hi, hlh⟩ : ∃ lo hi : Nat, (h < la ∧ lo + lb = h ∧ hi = h) ∨ (la ≤ h ∧ lo = 0 ∧ hi = la) := by
    by_cases hc : h < la
    · exact ⟨h - lb, h, .inl ⟨hc, by omega, rfl⟩⟩
    · exact ⟨0, la, .inr ⟨by omega, rfl, rfl⟩⟩
  have hlh := Lib.hid hlh
  go_enter Tryd.func103, Tryd.ntmps103
  go_upto_if 140 with fail
  go_cut [20, 21] (fun v20 v21 wx => ∃ s r : Nat, v20 = .int .i64 s ∧ v21 = .int .i64 r ∧ s ≤ a + lo ∧ a + lo ≤ s ∧ r ≤ a + hi ∧ a + hi ≤ r ∧ wx = w)
  case first => as_aux_lemma =>
    rcases hlh.out with ⟨c1, c2, c3⟩ | ⟨c1, c2, c3⟩
    · have p1 : decide ((mid : Int) < (m : Int)) = true := decide_eq_true (by omega)
      have p2 : decide ((m : Int) > (mid : Int)) = true := decide_eq_true (by omega)
      have e1 : (mid : Int) + (m : Int) - (b : Int) = ((mid + m - b : Nat) : Int) := by omega
      go_wp2_with fail
      go_meet
      exact ⟨mid + m - b, mid, by rw [← e1], rfl, by omega, by omega, by omega, by omega, rfl⟩
    · have p1 : decide ((mid : Int) < (m : Int)) = false := decide_eq_false (by omega)
      have p2 : decide ((m : Int) > (mid : Int)) = false := decide_eq_false (by omega)
      go_wp2_with fail
      go_meet
      exact ⟨a, m, rfl, rfl, by omega, by omega, by omega, by omega, rfl⟩
  case rest => as_aux_lemma =>
    obtain ⟨s0, r0, rfl, rfl, s1, s2, r1, r2, hwc⟩ := hcut
    subst hwc
    have L1 : lo ≤ hi := by rcases hlh.out with ⟨c1, c2, c3⟩ | ⟨c1, c2, c3⟩ <;> omega
    have L2 : hi ≤ h := by rcases hlh.out with ⟨c1, c2, c3⟩ | ⟨c1, c2, c3⟩ <;> omega
    have L3 : hi ≤ la := by rcases hlh.out with ⟨c1, c2, c3⟩ | ⟨c1, c2, c3⟩ <;> omega
    have L4 : h ≤ lo + lb := by rcases hlh.out with ⟨c1, c2, c3⟩ | ⟨c1, c2, c3⟩ <;> omega
    have L5 : Hid ((lo = 0 ∨ lo + lb = h) ∧ (hi = h ∨ hi = la)) := Lib.hid (by rcases hlh.out with ⟨c1, c2, c3⟩ | ⟨c1, c2, c3⟩ <;> exact ⟨by omega, by omega⟩)
    clear hlh
    go_wp2
    go_loopw [20, 21] (fun vs vr wr => ∃ s r : Nat, vs = .int .i64 s ∧ vr = .int .i64 r ∧ a + lo ≤ s ∧ s ≤ r ∧ r ≤ a + hi ∧ Hid ((s - a = lo ∨ RT A[s - a - 1]! B[h - (s - a)]!) ∧ (r - a = hi ∨ RT B[h - (r - a) - 1]! A[r - a]!)) ∧ Hid (SWK encT k w0 g off d wr)) (fun vs vr _ => (RowKit.intOf vr).toNat - (RowKit.intOf vs).toNat)
    case atStart => exact ⟨s0, r0, rfl, rfl, s2, by omega, r1, Lib.hid ⟨.inl (by omega), .inl (by omega)⟩, S0⟩
    case round =>
      obtain ⟨s, r, rfl, rfl, g1, g2, g3, hV, S1⟩ := hrel
      clear S0 s1 s2 r1 r2
      by_cases hlt : s < r
      · have p1 : decide ((s : Int) < (r : Int)) = true := decide_eq_true (by omega)
        obtain ⟨c, hc⟩ : ∃ c, (s + r) / 2 = c := ⟨_, rfl⟩
        have hcs : s ≤ c := by omega
        have hcr : c < r := by omega
        have hc2 : ((s : Int) + (r : Int)) / 2 = (c : Int) := by omega
        clear hc
        obtain ⟨tc, htc⟩ : ∃ tc, c = a + tc := ⟨c - a, by omega⟩
        obtain ⟨tb, htb⟩ : ∃ tb, tb + tc + 1 = h := ⟨h - 1 - tc, by omega⟩
        obtain ⟨pc, hpc⟩ : ∃ pc, pc = m + tb := ⟨_, rfl⟩
        have hp2 : (mid : Int) + (m : Int) - 1 - (c : Int) = (pc : Int) := by omega
        have hp4 : IntKind.i64.wrap (pc : Int) = (pc : Int) := by rw [IntKind.wrap_i64]; omega
        have hla : tc < la := by omega
        have hlb : tb < lb := by omega
        have z1 : (pc : Int) < (sz : Int) := by omega
        have z2 : (c : Int) < (sz : Int) := by omega
        have l1 : ∀ n os, _ := S1.out.ld R (by omega) Tryd.prog pc (by omega)
        have l2 : ∀ n os, _ := S1.out.ld R (by omega) Tryd.prog c (by omega)
        have hcg : ∀ n os, _ := S1.out.cmp hC.out hsd d[pc]! d[c]!
        have CLS : Hid (∀ n os, SWK encT k w0 g off d (grow (wr.drewN n) os)) := fun n os => S1.out.grown n os
        have e1 : d[pc]! = B[tb]! := by rw [hpc]; exact hy.out tb hlb
        have e2 : d[c]! = A[tc]! := by rw [htc]; exact hx.out tc hla
        rw [e1] at l1 hcg
        rw [e2] at l2 hcg
        have htg : A[tc]!.2 < B[tb]!.2 := ht.out _ (at_mem (by have := hE.out.2.1; omega)) _ (at_mem (by have := hE.out.2.2; omega))
        have u1 : c ≤ a + tc := by omega
        have u2 : a + tc ≤ c := by omega
        have u3 : tb + tc + 1 ≤ h := by omega
        have u4 : h ≤ tb + tc + 1 := by omega
        clear S1 e1 e2 htc htb hpc
        obtain ⟨cv, hcv⟩ : ∃ cv, cfT B[tb]! A[tc]! = cv := ⟨_, rfl⟩
        rw [hcv] at hcg
        generalize encT B[tb]! = cH at l1 hcg
        generalize encT A[tc]! = cA at l2 hcg
        cases hl : ltT B[tb]! A[tc]! with
        | false =>
          have hneg : decide (cv < 0) = false := decide_eq_false (by rw [← hcv]; exact cfT_nlt hl)
          have hV2 : Hid ((c + 1 - a = lo ∨ RT A[c + 1 - a - 1]! B[h - (c + 1 - a)]!) ∧ (r - a = hi ∨ RT B[h - (r - a) - 1]! A[r - a]!)) := Lib.hid ⟨.inr (by rw [show c + 1 - a - 1 = tc by omega, show h - (c + 1 - a) = tb by omega]; exact RT.of_nlt htg hl), hV.out.2⟩
          clear hcv hl hV htg
          go_wp2_with fail
          go_quiet_grown (first | (go_at_fn 63; refine Calls.grown_of (hcg _ _)))
          go_wp2
          go_roundw
          case rel => exact ⟨c + 1, r, by go_num, rfl, by omega, by omega, g3, hV2, CLS.out nq osq⟩
          case measure => simp [RowKit.intOf]; omega
        | true =>
          have hneg : decide (cv < 0) = true := decide_eq_true (by rw [← hcv]; exact cfT_lt hl)
          have hV2 : Hid ((s - a = lo ∨ RT A[s - a - 1]! B[h - (s - a)]!) ∧ (c - a = hi ∨ RT B[h - (c - a) - 1]! A[c - a]!)) := Lib.hid ⟨hV.out.1, .inr (by rw [show c - a = tc by omega, show h - tc - 1 = tb by omega]; exact RT.of_lt hl)⟩
          clear hcv hl hV htg
          go_wp2_with fail
          go_quiet_grown (first | (go_at_fn 63; refine Calls.grown_of (hcg _ _)))
          go_wp2
          go_roundw
          case rel => exact ⟨s, c, rfl, by go_num, g1, hcs, by omega, hV2, CLS.out nq osq⟩
          case measure => simp [RowKit.intOf]; omega
      · have p1 : decide ((s : Int) < (r : Int)) = false := decide_eq_false (by omega)
        obtain ⟨u, hu⟩ : ∃ u, s = a + u := ⟨s - a, by omega⟩
        have u1 : s ≤ a + u := by omega
        have u2 : a + u ≤ s := by omega
        have hF : Hid ((u = 0 ∨ lb ≤ h - u ∨ RT A[u - 1]! B[h - u]!) ∧ (la ≤ u ∨ h = u ∨ RT B[h - u - 1]! A[u]!)) := by
          have h5 := hV.out
          have h6 := L5.out
          rw [show s - a = u by omega, show r - a = u by omega] at h5
          refine Lib.hid ⟨?_, ?_⟩
          · rcases h5.1 with h7 | h7
            · rcases h6.1 with h8 | h8
              · exact .inl (by omega)
              · exact .inr (.inl (by omega))
            · exact .inr (.inr h7)
          · rcases h5.2 with h7 | h7
            · rcases h6.2 with h8 | h8
              · exact .inr (.inl (by omega))
              · exact .inl (by omega)
            · exact .inr (.inr h7)
        obtain ⟨e, he⟩ : ∃ e, e + u = m + h := ⟨m + h - u, by omega⟩
        have e1 : e + u ≤ m + h := by omega
        have e2 : m + h ≤ e + u := by omega
        have eN : (mid : Int) + (m : Int) - (s : Int) = (e : Int) := by omega
        have U1 : u ≤ la := by omega
        have U2 : u ≤ h := by omega
        have U3 : h - u ≤ lb := by omega
        clear hV he hu L5
        have S2 := S1
        clear S1
        have nA := hE.out.2.1
        have nB := hE.out.2.2
        have nP := hE.out.1
        have nE := Lib.hid (And.intro nP (And.intro nA nB))
        have hcl := Lib.hid (hd.out.trans (cut_list (P := P) (A := A) (B := B) (Q := Q) (u := u) (v := h - u) (by omega) (by omega)))
        have hcl2 : Hid ((la ≤ u ∨ h ≤ u) → d.toList = P ++ ((A.take u ++ B.take (h - u)) ++ ((A.drop u ++ B.drop (h - u)) ++ Q))) := Lib.hid (fun hq => hd.out.trans (cut_list2 (by omega)))
        clear nA nB nP
        go_upto_region 39 with fail
        go_cut [185] (fun c wx => (c = .bool true ∧ u < la ∧ u < h ∨ c = .bool false ∧ (la ≤ u ∨ h ≤ u)) ∧ wx = wr)
        case first => as_aux_lemma =>
          by_cases x1 : u < la
          · have y1 : decide ((s : Int) < (m : Int)) = true := decide_eq_true (by omega)
            by_cases x2 : u < h
            · have y2 : decide ((m : Int) < (e : Int)) = true := decide_eq_true (by omega)
              go_wp2_with fail
              go_meet
              exact ⟨.inl ⟨by first | rfl | (congr 1; exact decide_eq_true (by omega)), x1, x2⟩, rfl⟩
            · have y2 : decide ((m : Int) < (e : Int)) = false := decide_eq_false (by omega)
              go_wp2_with fail
              go_meet
              exact ⟨.inr ⟨by first | rfl | (congr 1; exact decide_eq_false (by omega)), .inr (by omega)⟩, rfl⟩
          · have y1 : decide ((s : Int) < (m : Int)) = false := decide_eq_false (by omega)
            go_wp2_with fail
            go_meet
            exact ⟨.inr ⟨by first | rfl | (congr 1; exact decide_eq_false (by omega)), .inl (by omega)⟩, rfl⟩
        case rest => as_aux_lemma =>
          obtain ⟨hc, hwc⟩ := hcut
          subst hwc
          go_upto_if 185 with fail
          go_cut [24] (fun v wx => v = .int .i64 e ∧ ∃ d1 : Array TC, d1.size = sz ∧ Hid (d1.toList = P ++ ((A.take u ++ B.take (h - u)) ++ ((A.drop u ++ B.drop (h - u)) ++ Q))) ∧ Hid (SWK encT k w0 g off d1 wx))
          case first => as_aux_lemma =>
            rcases hc with ⟨rfl, x1, x2⟩ | ⟨rfl, x⟩
            · go_wp2_with (go_at_call 118; (with_reducible refine (HRot.out d _ (P ++ A.take u) (A.drop u) (B.take (h - u)) (B.drop (h - u) ++ Q) _ _ _ S2.out hcl.out hsd ?_ ?_ ?_ ?_ ?_).mono ?_); (· rw [List.length_drop]; have := nE.out; omega); (· rw [List.length_take]; have := nE.out; omega); (· rw [List.length_append, List.length_take]; have := nE.out; omega); (· rw [List.length_append, List.length_take, List.length_drop]; have := nE.out; omega); (· rw [List.length_append, List.length_take, List.length_drop, List.length_take]; have := nE.out; omega); rintro en w1 ⟨rfl, d1, hd1, S3⟩)
              go_meet
              refine ⟨rfl, d1, ?_, Lib.hid ?_, S3⟩
              · have h1 := size_of_list hd1
                have h2 := size_of_list hcl.out
                simp only [List.length_append] at h1 h2
                omega
              · rw [hd1]; simp only [List.append_assoc]
            · have hq := hcl2.out x
              go_wp2_with fail
              go_meet
              exact ⟨rfl, d, hsd, hq, S2⟩
          case rest => as_aux_lemma =>
            obtain ⟨rfl, d1, hs1, hd1, S3⟩ := hcut
            clear S2 hcl hcl2 hc
            go_upto_region 41 with fail
            go_cut [199] (fun c wx => (c = .bool true ∧ 0 < u ∧ u < h ∨ c = .bool false ∧ (u = 0 ∨ h ≤ u)) ∧ Hid (SWK encT k w0 g off d1 wx))
            case first => as_aux_lemma =>
              by_cases x1 : 0 < u
              · have y1 : decide ((a : Int) < (s : Int)) = true := decide_eq_true (by omega)
                by_cases x2 : u < h
                · have y2 : decide ((s : Int) < (mid : Int)) = true := decide_eq_true (by omega)
                  go_wp2_with fail
                  go_meet
                  exact ⟨.inl ⟨by first | rfl | (congr 1; exact decide_eq_true (by omega)), x1, x2⟩, S3⟩
                · have y2 : decide ((s : Int) < (mid : Int)) = false := decide_eq_false (by omega)
                  go_wp2_with fail
                  go_meet
                  exact ⟨.inr ⟨by first | rfl | (congr 1; exact decide_eq_false (by omega)), .inr (by omega)⟩, S3⟩
              · have y1 : decide ((a : Int) < (s : Int)) = false := decide_eq_false (by omega)
                go_wp2_with fail
                go_meet
                exact ⟨.inr ⟨by first | rfl | (congr 1; exact decide_eq_false (by omega)), .inl (by omega)⟩, S3⟩
            case rest => as_aux_lemma =>
              obtain ⟨hc, S4⟩ := hcut
              clear S3
              go_upto_if 199 with fail
              go_cut [24] (fun v wx => v = .int .i64 e ∧ ∃ (d2 : Array TC) (C1 : List TC), d2.size = sz ∧ Hid (d2.toList = P ++ (C1 ++ ((A.drop u ++ B.drop (h - u)) ++ Q))) ∧ Hid (C1.Perm (A.take u ++ B.take (h - u)) ∧ SrtT C1) ∧ Hid (SWK encT k w0 g off d2 wx))
              case first => as_aux_lemma =>
                rcases hc with ⟨rfl, x1, x2⟩ | ⟨rfl, x⟩
                · have hMA : ∀ (ai mi bi : Int), ai = a → mi = s → bi = mid → MArg k g off sz w0 d1 wc P (A.take u) (B.take (h - u)) ((A.drop u ++ B.drop (h - u)) ++ Q) ai mi bi := fun ai mi bi f1 f2 f3 => by
                    have hn := nE.out
                    refine ⟨S4.out, hs1, hd1.out, (srt_part hA.out u).1, (srt_part hB.out _).1, fun x hx y hy => ht.out x (List.mem_of_mem_take hx) y (List.mem_of_mem_take hy), ?_, ?_, ?_, ?_, ?_⟩
                    · rw [List.length_take]; omega
                    · rw [List.length_take]; omega
                    · omega
                    · rw [List.length_take]; omega
                    · rw [List.length_take, List.length_take]; omega
                  go_wp2_with (go_at_call 103; (with_reducible refine (HR.out d1 _ P (A.take u) (B.take (h - u)) ((A.drop u ++ B.drop (h - u)) ++ Q) _ _ _ ?_ (hMA _ _ _ ?_ ?_ ?_)).mono ?_); (· rw [List.length_take, List.length_take]; have := nE.out; omega); (· rfl); (· rfl); (· rfl); rintro en w1 ⟨rfl, d2, C1, k1, k2, k3, k4, k5⟩)
                  go_meet
                  exact ⟨rfl, d2, C1, k1, k2, ⟨k3, k4⟩, k5⟩
                · have hq : SrtT (A.take u ++ B.take (h - u)) := by
                    rcases x with x | x
                    · rw [x, List.take_zero, List.nil_append]; exact (srt_part hB.out _).1
                    · rw [show h - u = 0 by omega, List.take_zero, List.append_nil]; exact (srt_part hA.out _).1
                  go_wp2_with fail
                  go_meet
                  exact ⟨rfl, d1, _, hs1, hd1, ⟨List.Perm.refl _, hq⟩, S4⟩
              case rest => as_aux_lemma =>
                obtain ⟨rfl, d2, C1, hs2, hd2, hC1, S5⟩ := hcut
                clear S4 hd1 hs1 hc
                have nC : Hid (C1.length = h) := Lib.hid (by
                  have h1 := hC1.out.1.length_eq
                  have hn := nE.out
                  rw [List.length_append, List.length_take, List.length_take] at h1
                  omega)
                have hJ : Hid (∀ C2 : List TC, C2.Perm (A.drop u ++ B.drop (h - u)) → SrtT C2 → SrtT (C1 ++ C2) ∧ (C1 ++ C2).Perm (A ++ B)) := Lib.hid (fun C2 p2 s2 => by
                  have hn := nE.out
                  refine merge_cut (R := RT) (fun x y z => RT.trans) hA.out hB.out (by omega) ?_ ?_ (by omega) (by omega) hC1.out.1 p2 hC1.out.2 s2
                  · rcases hF.out.1 with q | q | q
                    · exact .inl q
                    · exact .inr (.inl (by omega))
                    · exact .inr (.inr q)
                  · rcases hF.out.2 with q | q | q
                    · exact .inl (by omega)
                    · exact .inr (.inl q)
                    · exact .inr (.inr q))
                clear hF
                go_upto_region 43 with fail
                go_cut [213] (fun c wx => (c = .bool true ∧ u < la ∧ h - u < lb ∨ c = .bool false ∧ (la ≤ u ∨ lb ≤ h - u)) ∧ Hid (SWK encT k w0 g off d2 wx))
                case first => as_aux_lemma =>
                  by_cases x1 : u < la
                  · have y1 : decide ((mid : Int) < (e : Int)) = true := decide_eq_true (by omega)
                    by_cases x2 : h - u < lb
                    · have y2 : decide ((e : Int) < (b : Int)) = true := decide_eq_true (by omega)
                      go_wp2_with fail
                      go_meet
                      exact ⟨.inl ⟨by first | rfl | (congr 1; exact decide_eq_true (by omega)), x1, x2⟩, S5⟩
                    · have y2 : decide ((e : Int) < (b : Int)) = false := decide_eq_false (by omega)
                      go_wp2_with fail
                      go_meet
                      exact ⟨.inr ⟨by first | rfl | (congr 1; exact decide_eq_false (by omega)), .inr (by omega)⟩, S5⟩
                  · have y1 : decide ((mid : Int) < (e : Int)) = false := decide_eq_false (by omega)
                    go_wp2_with fail
                    go_meet
                    exact ⟨.inr ⟨by first | rfl | (congr 1; exact decide_eq_false (by omega)), .inl (by omega)⟩, S5⟩
                case rest => as_aux_lemma =>
                  obtain ⟨hc, S6⟩ := hcut
                  clear S5
                  rcases hc with ⟨rfl, x1, x2⟩ | ⟨rfl, x⟩
                  · have hMA : ∀ (ai mi bi : Int), ai = mid → mi = e → bi = b → MArg k g off sz w0 d2 wc (P ++ C1) (A.drop u) (B.drop (h - u)) Q ai mi bi := fun ai mi bi f1 f2 f3 => by
                      have hn := nE.out
                      have hm := nC.out
                      refine ⟨S6.out, hs2, ?_, (srt_part hA.out u).2, (srt_part hB.out _).2, fun x hx y hy => ht.out x (List.mem_of_mem_drop hx) y (List.mem_of_mem_drop hy), ?_, ?_, ?_, ?_, ?_⟩
                      · rw [hd2.out]; simp only [List.append_assoc]
                      · rw [List.length_drop]; omega
                      · rw [List.length_drop]; omega
                      · rw [List.length_append]; omega
                      · rw [List.length_append, List.length_drop]; omega
                      · rw [List.length_append, List.length_drop, List.length_drop]; omega
                    go_wp2_with (go_at_call 103; (with_reducible refine (HR.out d2 _ (P ++ C1) (A.drop u) (B.drop (h - u)) Q _ _ _ ?_ (hMA _ _ _ ?_ ?_ ?_)).mono ?_); (· rw [List.length_drop, List.length_drop]; have := nE.out; omega); (· rfl); (· rfl); (· rfl); rintro en w1 ⟨rfl, d3, C2, k1, k2, k3, k4, k5⟩)
                    go_end0
                    exact ⟨rfl, d3, C1 ++ C2, k1, by rw [k2]; simp only [List.append_assoc], (hJ.out C2 k3 k4).2, (hJ.out C2 k3 k4).1, k5⟩
                  · have hq : SrtT (A.drop u ++ B.drop (h - u)) := by
                      have hn := nE.out
                      rcases x with x | x
                      · rw [List.drop_of_length_le (by omega), List.nil_append]; exact (srt_part hB.out _).2
                      · rw [List.drop_of_length_le (l := B) (by omega), List.append_nil]; exact (srt_part hA.out _).2
                    go_wp2
                    go_end0
                    exact ⟨rfl, d2, C1 ++ (A.drop u ++ B.drop (h - u)), hs2, by rw [hd2.out]; simp only [List.append_assoc], (hJ.out _ (List.Perm.refl _) hq).2, (hJ.out _ (List.Perm.refl _) hq).1, S6.out⟩
end Go.Proofs.YtckmebfgianeoaaDoor
