import Derived.Test.YtgbiodnfpbhjiaaGreatDoorWalkFx
import Derived.Test.YtgbiodnfpbhjiaaGreatDoorWalkEh
import Derived.Test.YtgbiodnfpbhjiaaGreatDoorWalkEx
/-
  Walk of the law EdlLines, over the contracts of what it calls.
  Conditions: those contracts.
-/
namespace Go.Proofs.YtgbiodnfpbhjiaaGreatDoor
open Go.RowKit Go.Lib
set_option linter.unusedSimpArgs false
set_option linter.unusedVariables false

theorem b8_nat {x : Int} (h0 : 0 ≤ x) (h1 : x < 256) : ((b8 x).toNat : Int) = x := by
  unfold b8
  rw [UInt8.toNat_ofNat']
  omega
set_option maxRecDepth 20000 in
set_option maxHeartbeats 8000000 in
theorem lawLines_core (a : Option Addr) (cap : Nat) (xs : List Int) (w : World)
    (HM : Hid (Calls Tryz.prog 12 #[.slice a xs.length cap] w fun e w' => ∃ (l : El) (v : Value) (S : ByteArray) (ls : List (List UInt8)), e = .returned (l.val v) ∧ Gr w w' ∧ (∃ p c, v = .slice p l.evs.length c) ∧ l.evs.length ≤ 6 ∧ (∀ w'', Gr w' w'' → Calls Tryz.prog 23 #[l.val v] w'' fun en w3 => en = .returned (.tuple #[.string S, .int .i64 0]) ∧ Gr w'' w3) ∧ S.data.toList = flatL ls ∧ LnOk ls ∧ ls.length = 2 + l.evs.length ∧ S.size ≤ 100000))
    (HW : Hid (∀ w', Gr w w' → Calls Tryz.prog 15 #[] w' fun e w'' => e = .returned (.bool true) ∧ Gr w' w'')) :
    Calls Tryz.prog 7 #[.slice a xs.length cap] w fun e w' => e = .returned (.bool true) ∧ Gr w w' := by
  go_enter Tryz.func7, Tryz.ntmps7
  go_upto_region 8 with (first
    | (go_at_call 12; (with_reducible refine HM.out.mono ?_); rintro e w1 ⟨⟨title, lb, ld, evs⟩, v, S, ls, rfl, hg1, ⟨p, c, rfl⟩, hn, HF, hS, hL, hll, hSz⟩; unfold El.val at HF ⊢; (simp only at HF hn hll ⊢); have HF := Lib.hid HF; have hbx := Cel.new w1 #[.string title, .int .i64 lb, .bool ld, .slice p evs.length c] 24)
    | (go_at_call 23; (with_reducible refine (HF.out _ ?_).mono ?_); (· exact (Gr.refl w1).alloc _); rintro e w2 ⟨rfl, hg2⟩))
  have hbx2 := hbx.gr hg2
  have hgw2 : Gr w w2 := (hg1.trans ((Gr.refl w1).alloc _)).trans hg2
  have hne : ls ≠ [] := by intro e; rw [e] at hll; simp at hll; omega
  have hS0 := Sc.init hne
  have hlen : S.size = (flatL ls).length := by rw [← hS, ba_len]
  have hget : ∀ (k : Nat) (h : k < S.size), (flatL ls)[k]? = some S[k] := fun k h => by
    rw [← hS]
    have := congrArg List.head? (ba_drop S k h)
    rwa [List.head?_drop] at this
  replace hlen := Lib.hid hlen
  replace hS := Lib.hid hS
  clear HF hg1 hg2 hbx
  go_loopw [6, 7, 8, 9] (fun ln fi st i wr => ∃ (q s0 k : Nat) (fs : ByteArray), ln = .int .i64 q ∧ fi = .string fs ∧ st = .int .i64 s0 ∧ i = .int .i64 k ∧ k ≤ S.size ∧ Hid (Sc ls k q s0) ∧ Gr w2 wr) (fun _ _ _ i _ => S.size + 1 - (RowKit.intOf i).toNat)
  case atStart => exact ⟨0, 0, 0, _, rfl, rfl, rfl, rfl, Nat.zero_le _, Lib.hid hS0, Gr.refl _⟩
  case round =>
    obtain ⟨q, s0, k, fs, rfl, rfl, rfl, rfl, h2, hsc, hg⟩ := hrel
    clear hS0
    by_cases c1 : k < S.size
    · have q1 : decide ((k : Int) < (S.size : Int)) = true := decide_eq_true (by omega)
      rcases Sc.step hL hsc.out (by rw [← hlen.out]; exact c1) with ⟨c5, hnx⟩ | ⟨c5, hnx, htx⟩
      · have q4 : ((S[k].toNat : Int) == 10) = false := by
          have : S[k].toNat ≠ 10 := fun e => c5 (by rw [hget k c1, UInt8.toNat_inj.1 (show S[k].toNat = (10 : UInt8).toNat from e)])
          simp; omega
        clear c5
        have hnx := Lib.hid hnx
        go_wp2
        go_roundw
        case rel => exact ⟨q, s0, k + 1, fs, rfl, rfl, rfl, by go_num, by omega, hnx, hg⟩
        case measure => simp [RowKit.intOf]; omega
      · have q4 : ((S[k].toNat : Int) == 10) = true := by
          rw [hget k c1] at c5
          injection c5 with c5
          rw [c5]; rfl
        clear c5
        have hq := hnx.1
        have hnx := Lib.hid hnx
        by_cases c6 : 2 ≤ q
        · obtain ⟨t1, t2⟩ := htx c6
          have q5 : decide (2 < (q : Int) + 1) = true := decide_eq_true (by omega)
          have q6 : decide ((k : Int) < (s0 : Int) + 12) = false := decide_eq_false (by omega)
          clear htx
          have hqn : q < ls.length := by have := hnx.out.1; omega
          have b1 : ((b8 (48 + ((q : Int) + 1 - 2) / 100)).toNat : Int) = 48 + ((q : Int) + 1 - 2) / 100 := b8_nat (by omega) (by omega)
          have b2 : ((b8 (48 + ((q : Int) + 1 - 2) / 10 % 10)).toNat : Int) = 48 + ((q : Int) + 1 - 2) / 10 % 10 := b8_nat (by omega) (by omega)
          have b3 : ((b8 (48 + ((q : Int) + 1 - 2) % 10)).toNat : Int) = 48 + ((q : Int) + 1 - 2) % 10 := b8_nat (by omega) (by omega)
          have kq : ((S.extract s0 (s0 + 3)).toList == [b8 (48 + ((q : Int) + 1 - 2) / 100), b8 (48 + ((q : Int) + 1 - 2) / 10 % 10), b8 (48 + ((q : Int) + 1 - 2) % 10)]) = true := by
            rw [ByteArray.toList_eq]
            have e1 : (S.extract s0 (s0 + 3)).data.toList = (S.data.toList.drop s0).take 3 := by
              rw [ByteArray.data_extract, Array.toList_extract, List.extract_eq_take_drop]
              simp
            rw [e1, hS.out, t2, show ((q : Int) - 1) = (q : Int) + 1 - 2 by omega]
            exact beq_self_eq_true _
          obtain ⟨c1', hc1⟩ : ∃ c1', b8 (48 + ((q : Int) + 1 - 2) / 100) = c1' := ⟨_, rfl⟩
          obtain ⟨c2', hc2⟩ : ∃ c2', b8 (48 + ((q : Int) + 1 - 2) / 10 % 10) = c2' := ⟨_, rfl⟩
          obtain ⟨c3', hc3⟩ : ∃ c3', b8 (48 + ((q : Int) + 1 - 2) % 10) = c3' := ⟨_, rfl⟩
          rw [hc1] at b1 kq
          rw [hc2] at b2 kq
          rw [hc3] at b3 kq
          have kc : ∀ (w : World), (convert 51 9 (.slice (some ⟨w.heap.size, 0, none⟩) 3 3)).run Tryz.prog (w.alloc (.cells #[.int .u8 (48 + ((q : Int) + 1 - 2) / 100), .int .u8 (48 + ((q : Int) + 1 - 2) / 10 % 10), .int .u8 (48 + ((q : Int) + 1 - 2) % 10)] 5)) = .ok (.string ⟨#[c1', c2', c3']⟩) (w.alloc (.cells #[.int .u8 (48 + ((q : Int) + 1 - 2) / 100), .int .u8 (48 + ((q : Int) + 1 - 2) / 10 % 10), .int .u8 (48 + ((q : Int) + 1 - 2) % 10)] 5)) := fun w => by
            have := run_convert_bytes_back (P := Tryz.prog) (w.alloc (.cells #[.int .u8 (48 + ((q : Int) + 1 - 2) / 100), .int .u8 (48 + ((q : Int) + 1 - 2) / 10 % 10), .int .u8 (48 + ((q : Int) + 1 - 2) % 10)] 5)) 51 9 5 ⟨w.heap.size, 0, none⟩ 3 [c1', c2', c3'] Tryz.underlying51 Tryz.underlying5 Tryz.underlying9 (fun j hj => by
              have hj : j < 3 := hj
              rcases (show j = 0 ∨ j = 1 ∨ j = 2 by omega) with rfl | rfl | rfl
              · simp [Addr.add, b1]
              · simp [Addr.add, b2]
              · simp [Addr.add, b3])
            exact this
          clear b1 b2 b3 hc1 hc2 hc3 t2
          go_wp2
          refine ⟨⟨q + 1, k + 1, k + 1, _, by go_num, rfl, by go_num, by go_num, by omega, hnx, hg.alloc _⟩, by simp [RowKit.intOf]; omega⟩
        · have q5 : decide (2 < (q : Int) + 1) = false := decide_eq_false (by omega)
          clear htx
          go_wp2
          go_roundw
          case rel => exact ⟨q + 1, k + 1, k + 1, fs, by go_num, rfl, by go_num, by go_num, by omega, hnx, hg⟩
          case measure => simp [RowKit.intOf]; omega
    · have q1 : decide ((k : Int) < (S.size : Int)) = false := decide_eq_false (by omega)
      have hk : k = S.size := by omega
      have hE := hsc.out
      rw [hk, hlen.out] at hE
      obtain ⟨e1, e2⟩ := hE.end
      rw [← hlen.out] at e1
      have hb := hbx2.gr hg
      have k1 := hb.lt
      have k2 := (hb.2 3 _ rfl).1
      have q2 : ((s0 : Int) == (S.size : Int)) = true := by simp; omega
      have q3 : ((q : Int) == 2 + (evs.length : Int)) = true := by simp; omega
      clear e1 e2 hE hk hsc hlen hS
      go_wp2_with (go_at_call 15; (with_reducible refine (HW.out _ ?_).mono ?_); (· exact hgw2.trans hg); rintro e w3 ⟨rfl, hg3⟩)
      go_ret
      exact ⟨rfl, (hgw2.trans hg).trans hg3⟩
end Go.Proofs.YtgbiodnfpbhjiaaGreatDoor

/-
  Walk of the law EdlLines.
  Conditions: the numbers lie in memory; the table of powers is laid.
-/
namespace Go.Proofs.YtgbiodnfpbhjiaaGreatDoor
open Go.RowKit Go.Lib
set_option linter.unusedSimpArgs false
set_option linter.unusedVariables false

theorem VE.mono {e : Ev} {n d1 d2 : Int} (h : VE e n d1) (hd : d1 ≤ d2) : VE e n d2 :=
  ⟨h.kd, h.l, h.ft, by have := h.d; omega, h.fr, by rcases h.rl with q | ⟨q1, q2, q3, q4, q5, q6⟩; exact .inl q; exact .inr ⟨q1, q2, q3, by omega, q5, by omega⟩⟩
theorem vEvs_mono {d1 d2 : Int} (hd : d1 ≤ d2) : ∀ {l : List Ev} {n : Int}, vEvs d1 n l = true → vEvs d2 n l = true
  | [], _, _ => rfl
  | e :: l, n, h => by
    obtain ⟨h1, h2⟩ := vEvs_cons.1 h
    exact vEvs_cons.2 ⟨h1.mono hd, vEvs_mono hd h2⟩
theorem emade_ok {l : El} (h : MadeE l) : vEl l = true := by
  have ho : C19.okB l.base l.drop = true := by
    have hb := h.b
    have hd := h.d
    unfold isBs at hb
    cases hq : l.drop with
    | false => rcases hb with e | e | e | e <;> rw [e] <;> decide
    | true => rcases hd hq with e | e <;> rw [e] <;> decide
  have hday : 30000 ≤ C19.dayN l.base l.drop := by
    obtain ⟨b1, b2, b3, b4⟩ := C19.okB_bounds ho
    unfold C19.dayN
    omega
  have ht : ∀ s ∈ titlesL, vLine s = true := by decide +kernel
  unfold vEl
  rw [ho, ht _ h.t, decide_eq_true (show l.evs.length ≤ 999 by have := h.n; omega), vEvs_mono hday h.v]
  rfl
theorem flatB_len : ∀ {ls : List (List UInt8)}, (∀ c ∈ ls, c.length ≤ 100) → (flatL ls).length ≤ 101 * ls.length
  | [], _ => by simp [flatL]
  | c :: r, h => by
    have h1 := h c (.head _)
    have h2 := flatB_len (ls := r) (fun x hx => h x (.tail _ hx))
    rw [flatL_cons]
    simp only [List.length_append, List.length_cons, List.length_nil]
    omega
theorem lines_size (l : El) (h : vEl l = true) : ∀ c ∈ linesB l, c.length ≤ 100 := by
  obtain ⟨h1, h2, h3, h4⟩ := vEl_parts h
  intro c hc
  unfold linesB at hc
  rcases List.mem_cons.1 hc with rfl | hc
  · have := (vLine_sz h2).2
    unfold ttlB
    rw [List.length_append, ba_len]
    simp only [List.length_cons, List.length_nil]
    omega
  rcases List.mem_cons.1 hc with rfl | hc
  · unfold fcmB
    cases l.drop <;> decide
  obtain ⟨i, hi⟩ := List.mem_iff_getElem?.1 hc
  have hl : i < l.evs.length := by
    have := (List.getElem?_eq_some_iff.1 hi).1
    rwa [evLs_length] at this
  rw [evLs_get _ _ _ _ _ hl] at hi
  injection hi with hi
  obtain ⟨m, _, hm⟩ := vEvs_at hl (Int.le_refl 0) h4
  rw [← hi]
  exact evL_size h1 hm
theorem t3_of {n : Int} : t3 n = [b8 (48 + n / 100), b8 (48 + n / 10 % 10), b8 (48 + n % 10)] := rfl
theorem lawLines_walk (a : Option Addr) (cap : Nat) (xs : List Int) (w : World) (hA : TapeArg w a cap xs) (hT : Pow w) :
    Calls Tryz.prog 7 #[.slice a xs.length cap] w fun e w' => e = .returned (.bool true) ∧ Gr w w' := by
  have HM : Hid (Calls Tryz.prog 12 #[.slice a xs.length cap] w fun e w' => ∃ (l : El) (v : Value) (S : ByteArray) (ls : List (List UInt8)), e = .returned (l.val v) ∧ Gr w w' ∧ (∃ p c, v = .slice p l.evs.length c) ∧ l.evs.length ≤ 6 ∧ (∀ w'', Gr w' w'' → Calls Tryz.prog 23 #[l.val v] w'' fun en w3 => en = .returned (.tuple #[.string S, .int .i64 0]) ∧ Gr w'' w3) ∧ S.data.toList = flatL ls ∧ LnOk ls ∧ ls.length = 2 + l.evs.length ∧ S.size ≤ 100000) := by
    refine Lib.hid ((emade_any a cap xs w hA).mono ?_)
    rintro e w' ⟨l, v, base, rfl, hg, hR, _, _, hMd⟩
    have hv := emade_ok hMd
    obtain ⟨p, c, hpc, _⟩ := hR.evs.shape
    obtain ⟨k1, k2⟩ := linesB_ok l hv
    refine ⟨l, v, ⟨(fmtB l).toArray⟩, linesB l, rfl, hg, ⟨p, c, hpc⟩, hMd.n, fun w'' hg2 => eformat_yes l v w'' (hR.gr hg2) hv (Pow.gr (hg.trans hg2) hT), rfl, k1, k2, ?_⟩
    have h9 := flatB_len (lines_size l hv)
    rw [k2] at h9
    have := hMd.n
    show (flatL (linesB l)).length ≤ 100000
    omega
  have HW : Hid (∀ w', Gr w w' → Calls Tryz.prog 15 #[] w' fun e w'' => e = .returned (.bool true) ∧ Gr w' w'') := Lib.hid fun w' hg => eawake_any w' (Pow.gr hg hT)
  exact lawLines_core a cap xs w HM HW
end Go.Proofs.YtgbiodnfpbhjiaaGreatDoor
