/-
  Contract of frame of the reference.
  Conditions: the text has 12 bytes; the rate is suitable.
-/
import Derived.Test.YtckmebfgianeoaaDoorMathFq
import Derived.Outline
namespace Go.Proofs.YtckmebfgianeoaaDoor
open Go.RowKit Go.Lib
set_option linter.unusedSimpArgs false
set_option linter.unusedVariables false

/-- a frame whose time is the text -/
def Hit (num den : Int) (s : List UInt8) (n : Int) : Prop := 0 ≤ n ∧ n ≤ 2147483647 ∧ msQ n num den < 360000000 ∧ s = clkT (msQ n num den)

set_option maxRecDepth 20000 in
set_option maxHeartbeats 4000000 in
theorem frame_any (s : ByteArray) (num den : Int) (w : World) (hs : suB num den = true) (hz : s.size = 12) :
    Calls Tryd.prog 58 #[.string s, .agg #[.int .i64 num, .int .i64 den]] w fun e w' => ∃ (n : Int) (ok : Bool), e = .returned (.tuple #[.int .i64 n, .bool ok]) ∧ Gr w w' ∧ ((ok = true ∧ Hit num den s.data.toList n) ∨ (ok = false ∧ n = 0 ∧ ∀ n0, ¬ Hit num den s.data.toList n0)) := by
  obtain ⟨_, n1, n2, d1, d2, h240⟩ := suB_out hs
  have HK : Hid (∀ (n : Int) w', 0 ≤ n → n ≤ 2147483647 → Calls Tryd.prog 53 #[.int .i64 n, .agg #[.int .i64 num, .int .i64 den]] w' fun e w'' => e = .returned (.tuple #[.string ⟨(clkT (msQ n num den)).toArray⟩, .bool (decide (msQ n num den < 360000000))]) ∧ Gr w' w'') := fun n w' h0 h1 => clock_any n num den w' h0 h1 hs
  have HM : Hid (∀ (q : Int) w', 0 ≤ q → q ≤ 362439999 → Calls Tryd.prog 79 #[.int .i64 q, .int .i64 num, .int .i64 (1000 * den)] w' fun e w'' => ∃ y r, e = .returned (.tuple #[.int .i64 y, .int .i64 r, .int .i64 0]) ∧ Gr w' w'' ∧ 0 ≤ y ∧ y ≤ 86985600 ∧ Hid (y = q * num / (1000 * den))) := by
    intro q w' h0 h1
    have hb := near_bound hs h0 h1
    have hP : mdP (q * num) (1000 * den) = true := by unfold mdP; exact decide_eq_true ⟨by omega, by omega⟩
    have := rmulDiv_any q num (1000 * den) w' ⟨by omega, by omega⟩ ⟨by omega, by omega⟩ ⟨by omega, by omega⟩
    unfold mdQ mdR mdE at this
    rw [if_pos ⟨by omega, hP⟩, if_pos ⟨by omega, hP⟩, if_pos (by omega), if_pos hP] at this
    exact this.mono fun e w'' ⟨he, hg⟩ => ⟨_, _, he, hg, hb.1, hb.2.1, Lib.hid rfl⟩
  have HH : Hid (∀ n0, Hit num den s.data.toList n0 → frG 0 0 s.data.toList = some (msQ n0 num den)) := fun n0 h => by
    rw [h.2.2.2]
    exact frG_clk (ms_bounds h.1 h.2.1 hs).2.2.1 h.2.2.1
  have hs0 := Lib.hid hs
  have hnew := Cel.new w #[.int .i64 num, .int .i64 den] 47
  have hlen : s.data.toList.length = 12 := by rw [ba_len]; exact hz
  have hz0 := Lib.hid hz
  have h12 : 12 ≤ s.size := by omega
  clear hs
  obtain ⟨F, hF⟩ : ∃ F, frG 0 0 s.data.toList = F := ⟨_, rfl⟩
  rw [hF] at HH
  have HS0 : Hid (frG 0 0 (s.data.toList.drop 0) = F) := by refine Lib.hid ?_; simpa using hF
  clear hF hz hlen
  go_enter Tryd.func58, Tryd.ntmps58
  go_wp2
  have hg0 : Gr w (w.alloc (.cells #[.int .i64 num, .int .i64 den] 47)) := (Gr.refl w).alloc _
  go_loopw [6, 7] (fun qv iv wr => ∃ (j : Nat) (x : Int), qv = .int .i64 x ∧ iv = .int .i64 j ∧ j ≤ 12 ∧ 0 ≤ x ∧ x ≤ qB j ∧ Gr w wr ∧ Cel wr w.heap.size [.int .i64 num, .int .i64 den] ∧ Hid (frG j x (s.data.toList.drop j) = F)) (fun _ iv _ => 12 - (RowKit.intOf iv).toNat)
  case atStart => exact ⟨0, 0, rfl, rfl, Nat.zero_le _, Int.le_refl _, by decide, hg0, hnew, HS0⟩
  case round =>
    obtain ⟨j, x, rfl, rfl, hj, hx0, hx1, hg, hk, hno⟩ := hrel
    clear HS0 hg0 hnew
    have hx2 := Int.le_trans hx1 (qB_le j)
    by_cases c1 : j < 12
    · have q1 : decide ((j : Int) < 12) = true := decide_eq_true (by omega)
      have hjs : j < s.size := by omega
      have hd := hno.out
      rw [ba_drop s j hjs] at hd
      obtain ⟨b, hb⟩ : ∃ b, s[j] = b := ⟨_, rfl⟩
      rw [hb] at hd
      have hk := Lib.hid hk
      by_cases csk : j = 2 ∨ j = 5 ∨ j = 8
      · rw [frG_skip csk] at hd
        have hV := Lib.hid hd
        have hq := qB_skip csk hx1
        clear hd hno hb HM HK HH
        have hG : Hid (∃ b2 b5 b8 : Bool, (((j : Int) == 2) = b2) ∧ (((j : Int) == 5) = b5) ∧ (((j : Int) == 8) = b8) ∧ ((b2 = true) ∨ (b2 = false ∧ b5 = true) ∨ (b2 = false ∧ b5 = false ∧ b8 = true))) := by
          refine Lib.hid ⟨_, _, _, rfl, rfl, rfl, ?_⟩
          rcases csk with h | h | h <;> subst h <;> simp
        clear csk
        obtain ⟨b2, b5, b8, g2, g5, g8, h | ⟨h, h'⟩ | ⟨h, h', h''⟩⟩ := hG.out
        · subst h
          go_wp2
          go_roundw
          case rel => exact ⟨j + 1, x, by go_num, by go_num, by omega, hx0, hq, hg, hk.out, hV⟩
          case measure => simp [RowKit.intOf]; omega
        · subst h h'
          go_wp2
          go_roundw
          case rel => exact ⟨j + 1, x, by go_num, by go_num, by omega, hx0, hq, hg, hk.out, hV⟩
          case measure => simp [RowKit.intOf]; omega
        · subst h h' h''
          go_wp2
          go_roundw
          case rel => exact ⟨j + 1, x, by go_num, by go_num, by omega, hx0, hq, hg, hk.out, hV⟩
          case measure => simp [RowKit.intOf]; omega
      · have g2 : ((j : Int) == 2) = false := by simp; omega
        have g5 : ((j : Int) == 5) = false := by simp; omega
        have g8 : ((j : Int) == 8) = false := by simp; omega
        by_cases c2 : isDg b = true
        · have c3 : 48 ≤ b.toNat ∧ b.toNat ≤ 57 := by unfold isDg at c2; simp only [Bool.and_eq_true, decide_eq_true_eq] at c2; exact c2
          have e1 : decide ((b.toNat : Int) < 48) = false := decide_eq_false (by omega)
          have e2 : decide (57 < (b.toNat : Int)) = false := decide_eq_false (by omega)
          rw [frG_dig csk c2] at hd
          by_cases c6 : j = 3 ∨ j = 6
          · rw [if_pos c6] at hd
            have hV := Lib.hid hd
            have hq := qB_six (d := (b.toNat : Int) - 48) c6 hx1 (by omega)
            have hG : Hid (∃ b3 b6 : Bool, (((j : Int) == 3) = b3) ∧ (((j : Int) == 6) = b6) ∧ ((b3 = true) ∨ (b3 = false ∧ b6 = true))) := by
              refine Lib.hid ⟨_, _, rfl, rfl, ?_⟩
              rcases c6 with h | h <;> subst h <;> simp
            clear hd hno HM HK HH csk c6
            obtain ⟨b3, b6, g3, g6, h | ⟨h, h'⟩⟩ := hG.out
            · subst h
              go_wp2
              go_roundw
              case rel => exact ⟨j + 1, x * 6 + ((b.toNat : Int) - 48), by go_num, by go_num, by omega, by omega, hq, hg, hk.out, hV⟩
              case measure => simp [RowKit.intOf]; omega
            · subst h h'
              go_wp2
              go_roundw
              case rel => exact ⟨j + 1, x * 6 + ((b.toNat : Int) - 48), by go_num, by go_num, by omega, by omega, hq, hg, hk.out, hV⟩
              case measure => simp [RowKit.intOf]; omega
          · rw [if_neg c6] at hd
            have g3 : ((j : Int) == 3) = false := by simp; omega
            have g6 : ((j : Int) == 6) = false := by simp; omega
            have hV := Lib.hid hd
            have hq := qB_ten (d := (b.toNat : Int) - 48) c1 csk c6 hx1 (by omega)
            clear hd hno HM HK HH csk c6
            go_wp2
            go_roundw
            case rel => exact ⟨j + 1, x * 10 + ((b.toNat : Int) - 48), by go_num, by go_num, by omega, by omega, hq, hg, hk.out, hV⟩
            case measure => simp [RowKit.intOf]; omega
        · have c2 : isDg b = false := by cases h : isDg b with
            | false => rfl
            | true => exact absurd h c2
          rw [frG_bad csk c2] at hd
          have hN : Hid (∀ n0, ¬ Hit num den s.data.toList n0) := Lib.hid (fun n0 h => by have := HH.out n0 h; rw [← hd] at this; cases this)
          have c4 : b.toNat < 48 ∨ (48 ≤ b.toNat ∧ 57 < b.toNat) := by
            unfold isDg at c2
            rcases Nat.lt_or_ge b.toNat 48 with h | h
            · exact .inl h
            · right
              refine ⟨h, ?_⟩
              rw [decide_eq_true h, Bool.true_and] at c2
              have := of_decide_eq_false c2
              omega
          clear hd hno HM HK HH csk c2
          rcases c4 with c4 | ⟨c4, c5⟩
          · have e1 : decide ((b.toNat : Int) < 48) = true := decide_eq_true (by omega)
            go_wp2
            simp [bodyPost, results, Tryd.results58, go_sem]
            exact ⟨hg, hN.out⟩
          · have e1 : decide ((b.toNat : Int) < 48) = false := decide_eq_false (by omega)
            have e2 : decide (57 < (b.toNat : Int)) = true := decide_eq_true (by omega)
            go_wp2
            simp [bodyPost, results, Tryd.results58, go_sem]
            exact ⟨hg, hN.out⟩
    · have q1 : decide ((j : Int) < 12) = false := decide_eq_false (by omega)
      have hj12 : j = 12 := by omega
      have hF : Hid (F = some x) := by
        refine Lib.hid ?_
        rw [← hno.out, List.drop_of_length_le (by rw [ba_len]; have := hz0.out; omega), frG]
      clear hno hj12
      obtain ⟨a1, a2, a3, a4, a5⟩ := hk.two
      go_wp2_with (go_at_call 79; (with_reducible refine (HM.out x _ hx0 hx2).mono ?_); rintro e w2 ⟨y, r, rfl, hg2, hy0, hy1, hye⟩; have hk2 := hk.gr hg2)
      have hgw2 := hg.trans hg2
      have hNear : Hid (∀ n0, Hit num den s.data.toList n0 → y ≤ n0 ∧ n0 ≤ y + 1) := by
        refine Lib.hid (fun n0 h => ?_)
        have h1 := HH.out n0 h
        rw [hF.out] at h1
        injection h1 with h1
        have := near_le hs0.out h.1 h.2.1
        rw [← h1, ← hye.out] at this
        exact this
      have hS2 : Hid (∀ n0, Hit num den s.data.toList n0 → max (y - 1) 0 ≤ n0) := Lib.hid (fun n0 h => by have := hNear.out n0 h; have := h.1; omega)
      clear hF hg hg2 hk a1 a2 a3 a4 a5 HM HH
      go_loopw [12] (fun nv wr => ∃ n : Int, nv = .int .i64 n ∧ 0 ≤ n ∧ n ≤ y + 2 ∧ Gr w wr ∧ Cel wr w.heap.size [.int .i64 num, .int .i64 den] ∧ Hid (∀ n0, Hit num den s.data.toList n0 → n ≤ n0)) (fun nv _ => (y + 2 - RowKit.intOf nv).toNat)
      case atStart => exact ⟨max (y - 1) 0, rfl, by omega, by omega, hgw2, hk2, hS2⟩
      case round =>
        obtain ⟨n, rfl, hn0, hn2, hg, hk, hno⟩ := hrel
        clear hgw2 hk2 hS2
        by_cases cn : n ≤ y + 1
        · have q2 : decide (n ≤ y + 1) = true := decide_eq_true cn
          obtain ⟨T, K, hT, hK⟩ : ∃ T K, (⟨(clkT (msQ n num den)).toArray⟩ : ByteArray) = T ∧ decide (msQ n num den < 360000000) = K := ⟨_, _, rfl, rfl⟩
          have HK1 : Hid (∀ w', Calls Tryd.prog 53 #[.int .i64 n, .agg #[.int .i64 num, .int .i64 den]] w' fun e w'' => e = .returned (.tuple #[.string T, .bool K]) ∧ Gr w' w'') := fun w' => by rw [← hT, ← hK]; exact HK.out n w' hn0 (by omega)
          have hT := Lib.hid hT
          have hK := Lib.hid hK
          obtain ⟨a1, a2, a3, a4, a5⟩ := hk.two
          have hkh := Lib.hid hk
          clear HK hk
          by_cases cm : K = true ∧ T = s
          · obtain ⟨ck, cs⟩ := cm
            have hyes : Hid (Hit num den s.data.toList n) := by
              refine Lib.hid ⟨hn0, by omega, ?_, ?_⟩
              · have := hK.out; rw [ck] at this; exact of_decide_eq_true this
              · rw [← cs, ← hT.out]
            have gT : (T.toList == s.toList) = true := by rw [cs]; simp
            clear hT hK cs
            subst ck
            go_wp2_with (go_at_call 53; (with_reducible refine (HK1.out _).mono ?_); rintro e w4 ⟨rfl, hg4⟩)
            simp [bodyPost, results, Tryd.results58, go_sem]
            exact ⟨hg.trans hg4, hyes.out⟩
          · have hmiss : Hid (∀ n0, Hit num den s.data.toList n0 → n + 1 ≤ n0) := by
              refine Lib.hid (fun n0 h => ?_)
              have h1 := hno.out n0 h
              rcases Int.lt_or_eq_of_le h1 with h2 | h2
              · omega
              · subst h2
                exact absurd ⟨by rw [← hK.out]; exact decide_eq_true h.2.2.1, by rw [← hT.out, ← h.2.2.2]⟩ cm
            clear hT hK
            cases K with
            | false =>
              clear cm
              go_wp2_with (go_at_call 53; (with_reducible refine (HK1.out _).mono ?_); rintro e w4 ⟨rfl, hg4⟩)
              go_roundw
              case rel => exact ⟨n + 1, by go_num, by omega, by omega, hg.trans hg4, hkh.out.gr hg4, hmiss⟩
              case measure => simp [RowKit.intOf]; omega
            | true =>
              have gT : (T.toList == s.toList) = false := by rw [ByteArray.toList_eq, ByteArray.toList_eq]; exact beq_eq_false_iff_ne.2 (fun h => cm ⟨rfl, ba_ext h⟩)
              clear cm
              go_wp2_with (go_at_call 53; (with_reducible refine (HK1.out _).mono ?_); rintro e w4 ⟨rfl, hg4⟩)
              go_roundw
              case rel => exact ⟨n + 1, by go_num, by omega, by omega, hg.trans hg4, hkh.out.gr hg4, hmiss⟩
              case measure => simp [RowKit.intOf]; omega
        · have q2 : decide (n ≤ y + 1) = false := decide_eq_false cn
          have hN : Hid (∀ n0, ¬ Hit num den s.data.toList n0) := Lib.hid (fun n0 h => by have := hno.out n0 h; have := hNear.out n0 h; omega)
          clear hno hNear HK hk
          go_wp2
          simp [bodyPost, results, Tryd.results58, go_sem]
          exact ⟨hg, hN.out⟩
theorem frame_det (s : ByteArray) (num den : Int) (hs : suB num den = true) (hz : s.size = 12) :
    ∃ (n : Int) (ok : Bool), (∀ w, Calls Tryd.prog 58 #[.string s, .agg #[.int .i64 num, .int .i64 den]] w fun e w' => e = .returned (.tuple #[.int .i64 n, .bool ok]) ∧ Gr w w') ∧ 0 ≤ n ∧ n ≤ 2147483647 ∧ (∀ n0, Hit num den s.data.toList n0 → n = n0 ∧ ok = true) := by
  have inj : ∀ m n, Hit num den s.data.toList m → Hit num den s.data.toList n → m = n := fun m n hm hn => clk_inj hs ⟨hm.1, hm.2.1⟩ ⟨hn.1, hn.2.1⟩ hm.2.2.1 hn.2.2.1 (by rw [← hm.2.2.2, ← hn.2.2.2])
  by_cases h : ∃ n, Hit num den s.data.toList n
  · obtain ⟨n, hn⟩ := h
    refine ⟨n, true, fun w => (frame_any s num den w hs hz).mono ?_, hn.1, hn.2.1, fun n0 h0 => ⟨inj _ _ hn h0, rfl⟩⟩
    rintro e w' ⟨m, ok, rfl, hg, ⟨rfl, hm⟩ | ⟨rfl, rfl, hm⟩⟩
    · rw [inj _ _ hm hn]; exact ⟨rfl, hg⟩
    · exact absurd hn (hm n)
  · refine ⟨0, false, fun w => (frame_any s num den w hs hz).mono ?_, by omega, by omega, fun n0 h0 => absurd ⟨n0, h0⟩ h⟩
    rintro e w' ⟨m, ok, rfl, hg, ⟨rfl, hm⟩ | ⟨rfl, rfl, hm⟩⟩
    · exact absurd ⟨m, hm⟩ h
    · exact ⟨rfl, hg⟩
end Go.Proofs.YtckmebfgianeoaaDoor
