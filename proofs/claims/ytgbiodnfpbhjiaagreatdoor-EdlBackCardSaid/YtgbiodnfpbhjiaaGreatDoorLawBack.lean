/-
  Walk of the law EdlBack.
  Conditions: the track given and the numbers lie in memory; the table of powers is laid.
-/
import Derived.Test.YtgbiodnfpbhjiaaGreatDoorWalkOfE
import Derived.Test.YtgbiodnfpbhjiaaGreatDoorWalkSa
import Derived.Test.YtgbiodnfpbhjiaaGreatDoorWalkFg
import Derived.Test.YtgbiodnfpbhjiaaGreatDoorWalkEx
namespace Go.Proofs.YtgbiodnfpbhjiaaGreatDoor
open Go.RowKit Go.Lib
set_option linter.unusedSimpArgs false
set_option linter.unusedVariables false

theorem nmC_idem {l : List Cl} (h : vtB l = true) : vtB (nmC l) = true ∧ nmC (nmC l) = nmC l := by
  obtain ⟨p1, p2, p3, p4, p5⟩ := nmC_parts h
  have hv : vtB (nmC l) = true := (vtB_iff _).2 ⟨p3, p1, p2⟩
  refine ⟨hv, ?_⟩
  generalize nmC l = N at *
  unfold nmC
  rw [if_pos hv, pk_of_packed p4]
  exact cutG_id p5
/-- a track cut to its first clips -/
theorem TrR.pre {w : World} {a : Option Addr} {cap : Nat} {cs : List CM} (h : TrR w (.slice a cs.length cap) cs) (m : Nat) (hm : m ≤ cs.length) (h0 : 0 < m) (c2 : Nat) : TrR w (.slice a m c2) (cs.take m) := by
  have hl : (cs.take m).length = m := by simp [hm]
  refine ⟨?_, fun c hc => h.ch c (List.mem_of_mem_take hc)⟩
  obtain ⟨_, a', cap', e, h0' | ⟨b, o, rfl, hb, hc⟩⟩ := h.rd
  · omega
  · injection e with e1 e2 e3
    subst e1
    rw [hl]
    refine ⟨by rw [cflat_length, hl], _, c2, rfl, .inr ⟨b, o, rfl, hb, fun j u hj => hc j u ?_⟩⟩
    have hj2 : j < m * 22 := by
      have := (List.getElem?_eq_some_iff.1 hj).1
      rwa [cflat_length, hl] at this
    have hi : j / 22 < m := by omega
    have hj8 : j % 22 < 22 := Nat.mod_lt _ (by omega)
    have he : j = j / 22 * 22 + j % 22 := by omega
    rw [he] at hj ⊢
    rw [cflat_at _ (j / 22) (by omega) (j % 22) hj8] at hj
    rw [cflat_at cs (j / 22) (by omega) (j % 22) hj8]
    simpa using hj
set_option maxRecDepth 20000 in
set_option maxHeartbeats 8000000 in
theorem lawBack_core (a : Option Addr) (cap : Nat) (xs : List Int) (raw : List CM) (rv : Value) (w : World) (hraw : TrR w rv raw) (hok : ∀ c ∈ raw, ClOk c.c) (hcp : ∀ a n c, rv = .slice a n c → n ≤ c)
    (HF : Hid (∀ w0, Gr w w0 → Calls Tryz.prog 19 #[.slice a xs.length cap] w0 fun e w' => ∃ (v : Value) (ts : List CM), e = .returned v ∧ Gr w0 w' ∧ TrR w' v ts ∧ ∀ c ∈ ts, ClOk c.c))
    (HW : Hid (∀ w', Gr w w' → Calls Tryz.prog 15 #[] w' fun e w'' => e = .returned (.bool true) ∧ Gr w' w'')) :
    Calls Tryz.prog 8 #[rv, .slice a xs.length cap] w fun e w' => e = .returned (.bool true) ∧ Gr w w' := by
  have HO : Hid (∀ (v : Value) (ts : List CM) (w' : World), TrR w' v ts → (∀ c ∈ ts, ClOk c.c) → Calls Tryz.prog 20 #[v, .string ⟨#[84]⟩, .int .i64 25, .bool false] w' fun e w'' => ∃ (t : ByteArray) (b : Int) (d : Bool) (es : List Ev) (q : Option Addr) (n k : Nat) (E : Int), e = .returned (.tuple #[.agg #[.string t, .int .i64 b, .bool d, .slice q n k], .int .i64 E]) ∧ Gr w' w'' ∧ ElR w'' (.slice q n k) ⟨t, b, d, es⟩ ∧ n = es.length ∧ n ≤ k ∧ OfP (ts.map CM.c) ⟨#[84]⟩ 25 false ⟨t, b, d, es⟩ E) := Lib.hid fun v ts w' h hts => by
    refine (eof_any ts v ⟨#[84]⟩ 25 false w' h hts (by decide)).mono ?_
    rintro e w'' ⟨⟨t, b, d, es⟩, lv, E, rfl, hg, hR, hcp, hP⟩
    obtain ⟨q, k, hlv, _⟩ := hR.evs.shape
    subst hlv
    exact ⟨t, b, d, es, q, es.length, k, E, rfl, hg, hR, rfl, hcp _ _ _ rfl, hP⟩
  have HT : Hid (∀ (C : List Cl) (t : ByteArray) (b : Int) (d : Bool) (es : List Ev) (q : Option Addr) (n k : Nat) (w' : World), ElR w' (.slice q n k) ⟨t, b, d, es⟩ → n ≤ k → OfP C ⟨#[84]⟩ 25 false ⟨t, b, d, es⟩ 0 → Calls Tryz.prog 16 #[.agg #[.string t, .int .i64 b, .bool d, .slice q n k]] w' fun e w'' => ∃ v ts, e = .returned (.tuple #[v, .int .i64 0]) ∧ Gr w' w'' ∧ TrR w'' v ts ∧ ts.map CM.c = nmC C ∧ vtB C = true) := Lib.hid fun C t b d es q n k w' h hk hP => by
    obtain ⟨b1, b2, b3⟩ := back_valid hP
    obtain ⟨p1, p2, p3, p4, p5⟩ := nmC_parts b1
    refine (etrack_any ⟨t, b, d, es⟩ _ w' h (fun a n c e => by injection e with e1 e2 e3; omega)).mono ?_
    rintro e w'' ⟨v', E, rfl, hg, hP⟩
    rcases hP with ⟨h1, _⟩ | ⟨_, h2, _⟩ | ⟨_, _, rfl, ts, h4, h5⟩
    · rw [b2] at h1; cases h1
    · rw [b3] at h2; omega
    · exact ⟨v', ts, rfl, hg, h4, by rw [h5]; exact b3, b1⟩
  have HS : Hid (∀ (cs ts : List CM) (v u : Value) (w' : World), TrR w' v cs → (∀ c ∈ cs, ClOk c.c) → TrR w' u ts → ts.map CM.c = nmC (cs.map CM.c) → vtB (cs.map CM.c) = true → Calls Tryz.prog 24 #[v, u] w' fun e w'' => e = .returned (.bool true) ∧ Gr w' w'') := Lib.hid fun cs ts v u w' h1 h2 h3 h4 h5 => by
    obtain ⟨p1, p2, p3, p4, p5⟩ := nmC_parts h5
    obtain ⟨i1, i2⟩ := nmC_idem h5
    refine tsame_true cs ts v u w' h1 h3 h2 (fun c hc => (p1 c.c (by rw [← h4]; exact List.mem_map.2 ⟨c, hc, rfl⟩)).ok) h5 (by rw [h4]; exact i1) (by rw [h4, i2]) p3 fun c hc => (p1 c hc).chn.1
  obtain ⟨ra, rcp, rfl, -⟩ := hraw.shape
  obtain ⟨cs0, v0, hv0, hR0, hok0, hcut⟩ : ∃ (cs0 : List CM) (v0 : Value), (v0 = if 80 < raw.length then .slice ra 80 rcp else .slice ra raw.length rcp) ∧ TrR w v0 cs0 ∧ (∀ c ∈ cs0, ClOk c.c) ∧ True := by
    by_cases h : 80 < raw.length
    · exact ⟨raw.take 80, _, rfl, by rw [if_pos h]; exact hraw.pre 80 (by omega) (by omega) _, fun c hc => hok c (List.mem_of_mem_take hc), trivial⟩
    · exact ⟨raw, _, rfl, by rw [if_neg h]; exact hraw, hok, trivial⟩
  have hcp' := hcp _ _ _ rfl
  have hsh := hraw.shape
  clear hcut hok hcp hraw
  obtain ⟨pa, pc, rfl, -⟩ := hR0.shape
  go_enter Tryz.func8, Tryz.ntmps8
  go_upto_if 13 with fail
  go_cut [0] (fun tv wx => tv = .slice pa cs0.length pc ∧ wx = w)
  case first =>
    rcases hsh with ⟨a', cap', e, hsh⟩
    injection e with e1 e2 e3
    subst e1 e3
    by_cases h : 80 < raw.length
    · rw [if_pos h] at hv0
      have q1 : decide ((80 : Int) < (raw.length : Int)) = true := decide_eq_true (by omega)
      rcases hsh with h0 | ⟨b, o, rfl, -, -⟩
      · omega
      go_wp2
      go_meet
      exact ⟨hv0.symm, rfl⟩
    · rw [if_neg h] at hv0
      have q1 : decide ((80 : Int) < (raw.length : Int)) = false := decide_eq_false (by omega)
      go_wp2
      go_meet
      exact ⟨hv0.symm, rfl⟩
  case rest =>
    obtain ⟨rfl, rfl⟩ := hcut
    clear hv0 hsh hcp'
    go_upto_region 4 with (go_at_call 19; (with_reducible refine (HF.out _ (Gr.refl _)).mono ?_); rintro e w2 ⟨v2, ts2, rfl, hg2, hR2, hok2⟩; obtain ⟨pa2, pc2, rfl, -⟩ := hR2.shape)
    have hgn : Gr w2 (w2.alloc (.cells #[.slice pa cs0.length pc, .slice pa2 ts2.length pc2] 35)) := (Gr.refl w2).alloc _
    have hbx := Cel.new w2 #[.slice pa cs0.length pc, .slice pa2 ts2.length pc2] 35
    have hgw := hg2.trans hgn
    obtain ⟨W3, hW3⟩ : ∃ W3, w2.alloc (.cells #[.slice pa cs0.length pc, .slice pa2 ts2.length pc2] 35) = W3 := ⟨_, rfl⟩
    rw [hW3] at hbx hgn hgw ⊢
    have HL : ∀ j : Nat, j < 2 → ∃ (cs : List CM) (qa : Option Addr) (qn qc : Nat), W3.cell? ⟨w2.heap.size, j, none⟩ = some (.slice qa qn qc) ∧ TrR W3 (.slice qa qn qc) cs ∧ ∀ c ∈ cs, ClOk c.c := by
      intro j hj
      rcases (show j = 0 ∨ j = 1 by omega) with rfl | rfl
      · exact ⟨cs0, pa, _, pc, (hbx.2 0 _ rfl).1, hR0.gr hgw, hok0⟩
      · exact ⟨ts2, pa2, _, pc2, (hbx.2 1 _ rfl).1, hR2.gr hgn, hok2⟩
    have hBl := hbx.lt
    obtain ⟨Bk, hBk⟩ : ∃ Bk, w2.heap.size = Bk := ⟨_, rfl⟩
    rw [hBk] at HL hBl ⊢
    replace HL := Lib.hid HL
    clear hbx hgn hR0 hok0 hR2 hok2 hg2 hW3 hBk HF
    go_wp2
    go_loopw [21] (fun i wr => ∃ j : Nat, j ≤ 2 ∧ i = .int .i64 j ∧ Gr W3 wr) (fun i _ => 2 - (RowKit.intOf i).toNat)
    case atStart => exact ⟨0, by omega, rfl, Gr.refl _⟩
    case round =>
      obtain ⟨j, hj, rfl, hg⟩ := hrel
      by_cases c1 : j < 2
      · have q1 : decide ((j : Int) < 2) = true := decide_eq_true (by omega)
        have q1' : decide (j < 2) = true := decide_eq_true c1
        obtain ⟨cs, qa, qn, qc, z0, hT, hK⟩ := HL.out j c1
        replace z0 := (hg.cells.1 Bk _ hBl).trans z0
        have hx := Nat.lt_of_lt_of_le hBl hg.size
        have hTr := hT.gr hg
        have HO1 := Lib.hid (HO.out _ cs wr hTr hK)
        clear HO HL hT
        go_upto_region 7 with (go_at_call 20; (with_reducible refine HO1.out.mono ?_); rintro e w4 ⟨t, b, d, es, q, n, k, E, rfl, hg4, hE4, -, hk4, hP4⟩)
        have hgn : Gr w4 (w4.alloc (.cells #[.string t, .int .i64 b, .bool d, .slice q n k] 24)) := (Gr.refl w4).alloc _
        have hb4 := Cel.new w4 #[.string t, .int .i64 b, .bool d, .slice q n k] 24
        have hE5 := hE4.gr hgn
        have hg5 := hg4.trans hgn
        clear HO1 hE4 hg4 hgn
        generalize w4.alloc (.cells #[.string t, .int .i64 b, .bool d, .slice q n k] 24) = W5 at *
        by_cases cE : E = 0
        · subst cE
          have HT1 := Lib.hid (HT.out (cs.map CM.c) t b d es q n k W5 hE5 hk4 hP4)
          have HS1 := Lib.hid fun ts u w' (hg' : Gr W5 w') h3 h4 h5 => HS.out cs ts (.slice qa qn qc) u w' (hTr.gr (hg5.trans hg')) hK h3 h4 h5
          have y := hb4.lt
          have y0 := (hb4.2 0 _ rfl).1
          have y1 := (hb4.2 1 _ rfl).1
          have y2 := (hb4.2 2 _ rfl).1
          have y3 := (hb4.2 3 _ rfl).1
          clear HT HS hP4 hb4 hE5
          go_wp2_with (first
            | (go_at_call 16; go_loud (with_reducible refine HT1.out.mono ?_); rintro e w6 ⟨u, ts, rfl, hg6, hR6, hm6, hv6⟩)
            | (go_at_call 24; go_loud (with_reducible refine (HS1.out _ _ _ hg6 hR6 hm6 hv6).mono ?_); rintro e w7 ⟨rfl, hg7⟩))
          go_roundw
          case rel => exact ⟨j + 1, by omega, by go_num, ((hg.trans hg5).trans hg6).trans hg7⟩
          case measure => simp [RowKit.intOf]; omega
        · have q2 : (E != 0) = true := by simp [cE]
          clear HT HS hP4 hb4 hE5
          go_wp2
          go_roundw
          case rel => exact ⟨j + 1, by omega, by go_num, hg.trans hg5⟩
          case measure => simp [RowKit.intOf]; omega
      · have q1 : decide ((j : Int) < 2) = false := decide_eq_false (by omega)
        have q1' : decide (j < 2) = false := decide_eq_false c1
        clear HO HT HS HL
        go_wp2_with (go_at_call 15; (with_reducible refine (HW.out _ (hgw.trans hg)).mono ?_); rintro e w9 ⟨rfl, hg9⟩)
        go_ret
        exact ⟨rfl, (hgw.trans hg).trans hg9⟩
theorem lawBack_walk (a : Option Addr) (cap : Nat) (xs : List Int) (raw : List CM) (rv : Value) (w : World) (hraw : TrR w rv raw) (hok : ∀ c ∈ raw, ClOk c.c) (hln : raw.length ≤ 140737488355328) (hcp : ∀ a n c, rv = .slice a n c → n ≤ c) (hA : TapeArg w a cap xs) (hT : Pow w) :
    Calls Tryz.prog 8 #[rv, .slice a xs.length cap] w fun e w' => e = .returned (.bool true) ∧ Gr w w' := by
  refine lawBack_core a cap xs raw rv w hraw hok hcp (Lib.hid fun w0 hg => ?_) (Lib.hid fun w' hg => eawake_any w' (Pow.gr hg hT))
  refine (fmtrack_any a cap xs w0 (hA.gr hg)).mono ?_
  rintro e w' ⟨v, ts, rfl, h1, h2, h3, _, _⟩
  exact ⟨v, ts, rfl, h1, h2, h3⟩
end Go.Proofs.YtgbiodnfpbhjiaaGreatDoor
