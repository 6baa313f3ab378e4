/-
  Contract of a merge of two sorted runs of captions in place where one of them has one element.
  Conditions: none.
-/
import Derived.Test.YtckmebfgianeoaaDoorWalkSr
import Derived.Test.YtckmebfgianeoaaDoorMathZ
namespace Go.Proofs.YtckmebfgianeoaaDoor
open Go.RowKit Go.Lib Go.Sort
set_option linter.unusedSimpArgs false
set_option linter.unusedVariables false

theorem cmp_lays (k g off sz : Nat) (w0 : World) : CmpLays Tryd.prog 63 #[] encT k cfT g off sz w0 := fun m os dk hs x y => repCmp_any ⟨x.1.f, x.1.t, oneV x.1.lv, []⟩ ⟨y.1.f, y.1.t, oneV y.1.lv, []⟩ _
theorem cfT_lt {x y : TC} (h : ltT x y = true) : cfT x y < 0 := by
  have := cfC_neg x.1 y.1
  unfold ltT at h
  rw [h] at this
  exact of_decide_eq_true this
theorem cfT_nlt {x y : TC} (h : ltT x y = false) : ¬ cfT x y < 0 := by
  have := cfC_neg x.1 y.1
  unfold ltT at h
  rw [h] at this
  exact of_decide_eq_false this
theorem at_P {d : Array TC} {P A S : List TC} (h : d.toList = P ++ (A ++ S)) {i k : Nat} (hi : i < A.length) (hk : k = P.length + i) : d[k]! = A[i]! := by subst hk; exact at_A h hi

set_option maxHeartbeats 4000000 in
set_option maxRecDepth 1000000 in
theorem sym_one (k : Nat) (hk3 : 3 = k) (g off cap sz : Nat) (d0 d : Array TC) (w0 w : World) (R : RowK encT k w0 g off d0) (S : SWK encT k w0 g off d w) (hs : d0.size = sz) (hsd : d.size = sz) (hsz : sz < 4611686018427387904) (P B Q : List TC) (x : TC) (hd : d.toList = P ++ (([x] ++ B) ++ Q)) (hB : SrtT B) (ht : ∀ y ∈ B, x.2 < y.2) (a m b : Nat) (ha : a = P.length) (hm : m = a + 1) (hb : b = m + B.length) :
    Calls Tryd.prog 103 #[.slice (some ⟨g, off, none⟩) sz cap, .int .i64 a, .int .i64 m, .int .i64 b, .func (.func 63) #[] #[]] w fun e w' => e = .returned (.tuple #[]) ∧ ∃ (d' : Array TC) (C : List TC), d'.toList = P ++ (C ++ Q) ∧ C.Perm (x :: B) ∧ SrtT C ∧ SWK encT k w0 g off d' w' := by
  have eg : ∀ args w, (callFunc 63 args).run Tryd.prog w = .ok (.enter 63 args) w := enters_of Tryd.func63 (by kernel_rfl) rfl
  have mixed : Tryd.prog.follows .mixedOrders = true := by kernel_rfl
  have aE : ∀ w, (isAgg 66).run Tryd.prog w = .ok true w := Tryd.isAgg66
  have zE : ∀ w, (Go.sizeOf 66).run Tryd.prog w = .ok k w := fun w => by rw [← hk3]; exact Tryd.sizeOf66 w
  clear hk3
  have hz : b ≤ sz := by
    have := size_of_list hd
    simp at this
    omega
  have hC := Lib.hid (cmp_lays k g off sz w0)
  have S0 : Hid (SWK encT k w0 g off d w) := S
  have hx : Hid (d[a]! = x) := Lib.hid (by
    have := at_P (i := 0) (k := a) (P := P) (A := [x]) (S := B ++ Q) (d := d) (by rw [hd]; simp) (by simp) (by omega)
    simpa using this)
  have hy : Hid (∀ t, t < B.length → d[m + t]! = B[t]!) := Lib.hid (fun t ht => at_P (P := P ++ [x]) (A := B) (S := Q) (by rw [hd]; simp) ht (by simp; omega))
  have hd := Lib.hid hd
  have hB := Lib.hid hB
  have ht := Lib.hid ht
  have q0 : ((m : Int) - (a : Int) == 1) = true := by simp; omega
  have hE : Hid (a = P.length ∧ m = a + 1 ∧ b = m + B.length) := Lib.hid ⟨ha, hm, hb⟩
  have ham : a < m := by omega
  have ham2 : m ≤ a + 1 := by omega
  have hmb : m ≤ b := by omega
  have hbB : b - m = B.length := by omega
  clear S ha hm hb
  go_enter Tryd.func103, Tryd.ntmps103
  go_wp2
  go_loopw [10, 11] (fun vi vj wr => ∃ (i j : Nat), vi = .int .i64 i ∧ vj = .int .i64 j ∧ m ≤ i ∧ i ≤ j ∧ j ≤ b ∧ Hid ((∀ t, t < i - m → t < B.length → ltT B[t]! x = true) ∧ (∀ t, j - m ≤ t → t < B.length → ltT B[t]! x = false)) ∧ Hid (SWK encT k w0 g off d wr)) (fun vi vj _ => (RowKit.intOf vj).toNat - (RowKit.intOf vi).toNat)
  case atStart => exact ⟨m, b, rfl, rfl, Nat.le_refl _, hmb, Nat.le_refl _, Lib.hid ⟨fun t h1 => absurd h1 (by omega), fun t h1 h2 => absurd h2 (by omega)⟩, S0⟩
  case round =>
    obtain ⟨i, j, rfl, rfl, hi, hij, hjb, hV, S1⟩ := hrel
    clear S0
    by_cases hlt : i < j
    · have q1 : decide ((i : Int) < (j : Int)) = true := decide_eq_true (by omega)
      obtain ⟨h, hh⟩ : ∃ h, (i + j) / 2 = h := ⟨_, rfl⟩
      have hhi : i ≤ h := by omega
      have hhj : h < j := by omega
      have hh2 : ((i : Int) + (j : Int)) / 2 = (h : Int) := by omega
      clear hh
      have z1 : (h : Int) < (sz : Int) := by omega
      have z2 : (a : Int) < (sz : Int) := by omega
      obtain ⟨t, hht⟩ : ∃ t, h = m + t := ⟨h - m, by omega⟩
      have htB : t < B.length := by omega
      have hsr := Lib.hid (srch1 hB.out ht.out htB)
      have l1 : ∀ n os, _ := S1.out.ld R (by omega) Tryd.prog h (by omega)
      have l2 : ∀ n os, _ := S1.out.ld R (by omega) Tryd.prog a (by omega)
      have hcg : ∀ n os, _ := S1.out.cmp hC.out hsd d[h]! d[a]!
      have CLS : Hid (∀ n os, SWK encT k w0 g off d (grow (wr.drewN n) os)) := fun n os => S1.out.grown n os
      have e1 : d[h]! = B[t]! := by rw [hht]; exact hy.out t htB
      have t1 : h ≤ m + t := by omega
      have t2 : m + t ≤ h := by omega
      clear hht
      have e2 : d[a]! = x := hx.out
      rw [e1] at l1 hcg
      rw [e2] at l2 hcg
      clear S1 e1 e2
      obtain ⟨cv, hcv⟩ : ∃ cv, cfT B[t]! x = cv := ⟨_, rfl⟩
      rw [hcv] at hcg
      generalize encT B[t]! = cH at l1 hcg
      generalize encT x = cA at l2 hcg
      cases hl : ltT B[t]! x with
      | true =>
        have hneg : decide (cv < 0) = true := decide_eq_true (by rw [← hcv]; exact cfT_lt hl)
        have hV2 : Hid ((∀ u, u < h + 1 - m → u < B.length → ltT B[u]! x = true) ∧ (∀ u, j - m ≤ u → u < B.length → ltT B[u]! x = false)) := Lib.hid ⟨fun u h1 _ => hsr.out.1 hl u (by omega), hV.out.2⟩
        clear hcv hl hsr hV
        go_wp2_with fail
        go_quiet_grown (first | (go_at_fn 63; refine Calls.grown_of (hcg _ _)))
        go_wp2
        go_roundw
        case rel => exact ⟨h + 1, j, by go_num, rfl, by omega, by omega, hjb, hV2, CLS.out nq osq⟩
        case measure => simp [RowKit.intOf]; omega
      | false =>
        have hneg : decide (cv < 0) = false := decide_eq_false (by rw [← hcv]; exact cfT_nlt hl)
        have hV2 : Hid ((∀ u, u < i - m → u < B.length → ltT B[u]! x = true) ∧ (∀ u, h - m ≤ u → u < B.length → ltT B[u]! x = false)) := Lib.hid ⟨hV.out.1, fun u h1 h2 => hsr.out.2 hl u (by omega) h2⟩
        clear hcv hl hsr hV
        go_wp2_with fail
        go_quiet_grown (first | (go_at_fn 63; refine Calls.grown_of (hcg _ _)))
        go_wp2
        go_roundw
        case rel => exact ⟨i, h, rfl, by go_num, hi, hhi, by omega, hV2, CLS.out nq osq⟩
        case measure => simp [RowKit.intOf]; omega
    · have q1 : decide ((i : Int) < (j : Int)) = false := decide_eq_false (by omega)
      obtain rfl : i = j := by omega
      obtain ⟨t, hit⟩ : ∃ t, i = m + t := ⟨i - m, by omega⟩
      have htB : t ≤ B.length := by omega
      have hput := Lib.hid (put1 (t := t) hB.out ht.out (fun u h1 h2 => hV.out.1 u (by omega) h2) (fun u h1 h2 => hV.out.2 u (by omega) h2))
      have t1 : i ≤ m + t := by omega
      have t2 : m + t ≤ i := by omega
      clear hV hx hy hit
      have S2 := S1
      clear S1
      go_wp2
      go_loopw [13] (fun vk wx => ∃ (r : Nat) (dk : Array TC), vk = .int .i64 ((a : Int) + r) ∧ r ≤ t ∧ dk.size = sz ∧ Hid (dk.toList = P ++ ((B.take r ++ x :: B.drop r) ++ Q)) ∧ Hid (SWK encT k w0 g off dk wx)) (fun vk _ => b - (RowKit.intOf vk).toNat)
      case atStart => exact ⟨0, d, by go_num, Nat.zero_le _, hsd, Lib.hid (by rw [hd.out]; simp), S2⟩
      case round =>
        obtain ⟨r, dk, rfl, hr, hdk, hl, S1⟩ := hrel
        clear S2
        by_cases hlt2 : r < t
        · have q2 : decide ((a : Int) + (r : Int) < (i : Int) - 1) = true := decide_eq_true (by omega)
          have ea : ((a : Int) + (r : Int)).toNat = a + r := by omega
          have pa : (0 : Int) ≤ (a : Int) + (r : Int) := by omega
          have ba : (a : Int) + (r : Int) < (sz : Int) := by omega
          have eb : ((a : Int) + (r : Int) + 1).toNat = a + r + 1 := by omega
          have pb : (0 : Int) ≤ (a : Int) + (r : Int) + 1 := by omega
          have bb : (a : Int) + (r : Int) + 1 < (sz : Int) := by omega
          have rb : IntKind.i64.wrap ((a : Int) + (r : Int) + 1) = (a : Int) + (r : Int) + 1 := by rw [IntKind.wrap_i64]; omega
          have S3 : Hid (SWK encT k w0 g off (swp dk (a + r) (a + r + 1)) ((wr.drew.setCells g (off + (a + r) * k) (encT dk[a + r + 1]!)).setCells g (off + (a + r + 1) * k) (encT dk[a + r]!))) := S1.out.swapped R (a + r) (a + r + 1) (by omega) (by omega)
          have la := S1.out.ld1 R (by omega) Tryd.prog (a + r) (by omega)
          have lb := S1.out.ld1 R (by omega) Tryd.prog (a + r + 1) (by omega)
          have sa := S1.out.st1 R (by omega) Tryd.prog (a + r) (by omega) dk[a + r + 1]!
          have sb := S1.out.st2 R (by omega) Tryd.prog (a + r) (a + r + 1) (by omega) (by omega) dk[a + r + 1]! dk[a + r]!
          have na : (encT dk[a + r]!).length = k := R.hk _
          have nb : (encT dk[a + r + 1]!).length = k := R.hk _
          have hl2 : Hid ((swp dk (a + r) (a + r + 1)).toList = P ++ ((B.take (r + 1) ++ x :: B.drop (r + 1)) ++ Q)) := by
            rw [hE.out.1]
            exact Lib.hid (step_up (by omega) hl.out)
          generalize encT dk[a + r]! = cI at S3 la sb na
          generalize encT dk[a + r + 1]! = cJ at S3 lb sa sb nb
          clear S1
          go_wp2_with fail
          go_big_region_o
          clear la lb sa sb
          generalize (wr.drew.setCells g (off + (a + r) * k) cJ).setCells g (off + (a + r + 1) * k) cI = wz at S3 ⊢
          go_wp2
          go_roundw
          case rel => exact ⟨r + 1, swp dk (a + r) (a + r + 1), by go_num, by omega, by rw [size_swp]; exact hdk, hl2, S3⟩
          case measure => simp [RowKit.intOf]; omega
        · have q2 : decide ((a : Int) + (r : Int) < (i : Int) - 1) = false := decide_eq_false (by omega)
          obtain rfl : r = t := by omega
          go_wp2
          (try simp only [Exit.inBlock, Exit.then])
          refine bodyPost_ret (results_none rfl _ _ _) rfl ?_
          exact ⟨rfl, dk, _, hl.out, one_perm B x r, hput.out, S1.out⟩

set_option maxHeartbeats 4000000 in
set_option maxRecDepth 1000000 in
theorem sym_last (k : Nat) (hk3 : 3 = k) (g off cap sz : Nat) (d0 d : Array TC) (w0 w : World) (R : RowK encT k w0 g off d0) (S : SWK encT k w0 g off d w) (hs : d0.size = sz) (hsd : d.size = sz) (hsz : sz < 4611686018427387904) (P A Q : List TC) (y : TC) (hd : d.toList = P ++ ((A ++ [y]) ++ Q)) (hA : SrtT A) (ht : ∀ x ∈ A, x.2 < y.2) (hA2 : 1 < A.length) (a m b : Nat) (ha : a = P.length) (hm : m = a + A.length) (hb : b = m + 1) :
    Calls Tryd.prog 103 #[.slice (some ⟨g, off, none⟩) sz cap, .int .i64 a, .int .i64 m, .int .i64 b, .func (.func 63) #[] #[]] w fun e w' => e = .returned (.tuple #[]) ∧ ∃ (d' : Array TC) (C : List TC), d'.toList = P ++ (C ++ Q) ∧ C.Perm (y :: A) ∧ SrtT C ∧ SWK encT k w0 g off d' w' := by
  have eg : ∀ args w, (callFunc 63 args).run Tryd.prog w = .ok (.enter 63 args) w := enters_of Tryd.func63 (by kernel_rfl) rfl
  have mixed : Tryd.prog.follows .mixedOrders = true := by kernel_rfl
  have aE : ∀ w, (isAgg 66).run Tryd.prog w = .ok true w := Tryd.isAgg66
  have zE : ∀ w, (Go.sizeOf 66).run Tryd.prog w = .ok k w := fun w => by rw [← hk3]; exact Tryd.sizeOf66 w
  clear hk3
  have hz : b ≤ sz := by
    have := size_of_list hd
    simp at this
    omega
  have hC := Lib.hid (cmp_lays k g off sz w0)
  have S0 : Hid (SWK encT k w0 g off d w) := S
  have hy : Hid (d[m]! = y) := Lib.hid (by
    have := at_P (i := 0) (k := m) (P := P ++ A) (A := [y]) (S := Q) (d := d) (by rw [hd]; simp) (by simp) (by simp; omega)
    simpa using this)
  have hx : Hid (∀ t, t < A.length → d[a + t]! = A[t]!) := Lib.hid (fun t ht => at_P (P := P) (A := A) (S := [y] ++ Q) (by rw [hd]; simp) ht (by omega))
  have hd := Lib.hid hd
  have hA := Lib.hid hA
  have ht := Lib.hid ht
  have q0 : ((m : Int) - (a : Int) == 1) = false := by simp; omega
  have q00 : ((b : Int) - (m : Int) == 1) = true := by simp; omega
  have hE : Hid (a = P.length ∧ m = a + A.length ∧ b = m + 1) := Lib.hid ⟨ha, hm, hb⟩
  have ham : a ≤ m := by omega
  have hmb : m < b := by omega
  have hmA : m - a = A.length := by omega
  clear S ha hm hb
  go_enter Tryd.func103, Tryd.ntmps103
  go_wp2
  go_loopw [14, 15] (fun vi vj wr => ∃ (i j : Nat), vi = .int .i64 i ∧ vj = .int .i64 j ∧ a ≤ i ∧ i ≤ j ∧ j ≤ m ∧ Hid ((∀ t, t < i - a → t < A.length → ltT y A[t]! = false) ∧ (∀ t, j - a ≤ t → t < A.length → ltT y A[t]! = true)) ∧ Hid (SWK encT k w0 g off d wr)) (fun vi vj _ => (RowKit.intOf vj).toNat - (RowKit.intOf vi).toNat)
  case atStart => exact ⟨a, m, rfl, rfl, Nat.le_refl _, ham, Nat.le_refl _, Lib.hid ⟨fun t h1 => absurd h1 (by omega), fun t h1 h2 => absurd h2 (by omega)⟩, S0⟩
  case round =>
    obtain ⟨i, j, rfl, rfl, hi, hij, hjb, hV, S1⟩ := hrel
    clear S0
    by_cases hlt : i < j
    · have q1 : decide ((i : Int) < (j : Int)) = true := decide_eq_true (by omega)
      obtain ⟨h, hh⟩ : ∃ h, (i + j) / 2 = h := ⟨_, rfl⟩
      have hhi : i ≤ h := by omega
      have hhj : h < j := by omega
      have hh2 : ((i : Int) + (j : Int)) / 2 = (h : Int) := by omega
      clear hh
      have z1 : (h : Int) < (sz : Int) := by omega
      have z2 : (m : Int) < (sz : Int) := by omega
      obtain ⟨t, hht⟩ : ∃ t, h = a + t := ⟨h - a, by omega⟩
      have htB : t < A.length := by omega
      have hsr := Lib.hid (srch2 hA.out ht.out htB)
      have l1 : ∀ n os, _ := S1.out.ld R (by omega) Tryd.prog h (by omega)
      have l2 : ∀ n os, _ := S1.out.ld R (by omega) Tryd.prog m (by omega)
      have hcg : ∀ n os, _ := S1.out.cmp hC.out hsd d[m]! d[h]!
      have CLS : Hid (∀ n os, SWK encT k w0 g off d (grow (wr.drewN n) os)) := fun n os => S1.out.grown n os
      have e1 : d[h]! = A[t]! := by rw [hht]; exact hx.out t htB
      have t1 : h ≤ a + t := by omega
      have t2 : a + t ≤ h := by omega
      clear hht
      have e2 : d[m]! = y := hy.out
      rw [e1] at l1 hcg
      rw [e2] at l2 hcg
      clear S1 e1 e2
      obtain ⟨cv, hcv⟩ : ∃ cv, cfT y A[t]! = cv := ⟨_, rfl⟩
      rw [hcv] at hcg
      generalize encT A[t]! = cH at l1 hcg
      generalize encT y = cA at l2 hcg
      cases hl : ltT y A[t]! with
      | false =>
        have hneg : decide (cv < 0) = false := decide_eq_false (by rw [← hcv]; exact cfT_nlt hl)
        have hV2 : Hid ((∀ u, u < h + 1 - a → u < A.length → ltT y A[u]! = false) ∧ (∀ u, j - a ≤ u → u < A.length → ltT y A[u]! = true)) := Lib.hid ⟨fun u h1 _ => hsr.out.1 hl u (by omega), hV.out.2⟩
        clear hcv hl hsr hV
        go_wp2_with fail
        go_quiet_grown (first | (go_at_fn 63; refine Calls.grown_of (hcg _ _)))
        go_wp2
        go_roundw
        case rel => exact ⟨h + 1, j, by go_num, rfl, by omega, by omega, hjb, hV2, CLS.out nq osq⟩
        case measure => simp [RowKit.intOf]; omega
      | true =>
        have hneg : decide (cv < 0) = true := decide_eq_true (by rw [← hcv]; exact cfT_lt hl)
        have hV2 : Hid ((∀ u, u < i - a → u < A.length → ltT y A[u]! = false) ∧ (∀ u, h - a ≤ u → u < A.length → ltT y A[u]! = true)) := Lib.hid ⟨hV.out.1, fun u h1 h2 => hsr.out.2 hl u (by omega) h2⟩
        clear hcv hl hsr hV
        go_wp2_with fail
        go_quiet_grown (first | (go_at_fn 63; refine Calls.grown_of (hcg _ _)))
        go_wp2
        go_roundw
        case rel => exact ⟨i, h, rfl, by go_num, hi, hhi, by omega, hV2, CLS.out nq osq⟩
        case measure => simp [RowKit.intOf]; omega
    · have q1 : decide ((i : Int) < (j : Int)) = false := decide_eq_false (by omega)
      obtain rfl : i = j := by omega
      obtain ⟨t, hit⟩ : ∃ t, i = a + t := ⟨i - a, by omega⟩
      have htB : t ≤ A.length := by omega
      have hput := Lib.hid (put2 (t := t) hA.out ht.out (fun u h1 h2 => hV.out.1 u (by omega) h2) (fun u h1 h2 => hV.out.2 u (by omega) h2))
      have t1 : i ≤ a + t := by omega
      have t2 : a + t ≤ i := by omega
      clear hV hx hy hit
      have S2 := S1
      clear S1
      go_wp2
      go_loopw [17] (fun vk wx => ∃ (v r : Nat) (dk : Array TC), vk = .int .i64 v ∧ v ≤ a + r ∧ a + r ≤ v ∧ t ≤ r ∧ r ≤ A.length ∧ dk.size = sz ∧ Hid (dk.toList = P ++ ((A.take r ++ y :: A.drop r) ++ Q)) ∧ Hid (SWK encT k w0 g off dk wx)) (fun vk _ => (RowKit.intOf vk).toNat)
      case atStart => exact ⟨m, A.length, d, rfl, by omega, by omega, htB, Nat.le_refl _, hsd, Lib.hid (by rw [hd.out]; simp), S2⟩
      case round =>
        obtain ⟨v, r, dk, rfl, v1, v2, hr, hr2, hdk, hl, S1⟩ := hrel
        clear S2
        by_cases hlt2 : t < r
        · have q2 : decide ((i : Int) < (v : Int)) = true := decide_eq_true (by omega)
          obtain ⟨v', hv'⟩ : ∃ v', v = v' + 1 := ⟨v - 1, by omega⟩
          obtain ⟨r', hr'⟩ : ∃ r', r = r' + 1 := ⟨r - 1, by omega⟩
          have hvv : v' + 1 ≤ v := by omega
          have hvw : v ≤ v' + 1 := by omega
          have S3 : Hid (SWK encT k w0 g off (swp dk v v') ((wr.drew.setCells g (off + v * k) (encT dk[v']!)).setCells g (off + v' * k) (encT dk[v]!))) := S1.out.swapped R v v' (by omega) (by omega)
          have la := S1.out.ld1 R (by omega) Tryd.prog v (by omega)
          have lb := S1.out.ld1 R (by omega) Tryd.prog v' (by omega)
          have sa := S1.out.st1 R (by omega) Tryd.prog v (by omega) dk[v']!
          have sb := S1.out.st2 R (by omega) Tryd.prog v v' (by omega) (by omega) dk[v']! dk[v]!
          have na : (encT dk[v]!).length = k := R.hk _
          have nb : (encT dk[v']!).length = k := R.hk _
          have hl2 : Hid ((swp dk v v').toList = P ++ ((A.take r' ++ y :: A.drop r') ++ Q)) := by
            have h0 := hl.out
            rw [hr'] at h0
            have e1 : v = P.length + r' + 1 := by have := hE.out.1; omega
            have e2 : v' = P.length + r' := by have := hE.out.1; omega
            rw [e1, e2]
            exact Lib.hid (step_down (by omega) h0)
          have w1 : v' ≤ a + r' := by omega
          have w2 : a + r' ≤ v' := by omega
          have w3 : t ≤ r' := by omega
          have w4 : r' ≤ A.length := by omega
          have ev : (v : Int) - 1 = (v' : Int) := by omega
          have ba : (v : Int) < (sz : Int) := by omega
          have bb : (v' : Int) < (sz : Int) := by omega
          clear hv' hr'
          generalize encT dk[v]! = cI at S3 la sb na
          generalize encT dk[v']! = cJ at S3 lb sa sb nb
          clear S1
          go_wp2_with fail
          go_big_region_o
          clear la lb sa sb
          generalize (wr.drew.setCells g (off + v * k) cJ).setCells g (off + v' * k) cI = wz at S3 ⊢
          go_wp2
          go_roundw
          case rel => exact ⟨v', r', swp dk v v', by go_num, w1, w2, w3, w4, by rw [size_swp]; exact hdk, hl2, S3⟩
          case measure => simp [RowKit.intOf]; omega
        · have q2 : decide ((i : Int) < (v : Int)) = false := decide_eq_false (by omega)
          obtain rfl : r = t := by omega
          go_wp2
          (try simp only [Exit.inBlock, Exit.then])
          refine bodyPost_ret (results_none rfl _ _ _) rfl ?_
          exact ⟨rfl, dk, _, hl.out, one_perm A y r, hput.out, S1.out⟩
end Go.Proofs.YtckmebfgianeoaaDoor
