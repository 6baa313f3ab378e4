/-
  Contract of Parse of the reference.
  Conditions: the text has fewer than 4,294,967,281 bytes.
-/
import Derived.Test.YtckmebfgianeoaaDoorMathPg
import Derived.Test.YtckmebfgianeoaaDoorMathPf
import Derived.Test.YtckmebfgianeoaaDoorWalkUs
import Derived.Outline
namespace Go.Proofs.YtckmebfgianeoaaDoor
open Go.RowKit Go.Lib
set_option linter.unusedSimpArgs false
set_option linter.unusedVariables false

theorem rparse_no (s : ByteArray) (num den : Int) (w : World) (hn : I64 num) (hd : I64 den) (hs : suB num den = false) :
    Calls Tryd.prog 30 #[.string s, .agg #[.int .i64 num, .int .i64 den]] w fun e w' => e = .returned (.tuple #[.slice none 0 0, .int .i64 1]) ∧ Gr w w' := by
  have HS : Hid (∀ w', Calls Tryd.prog 52 #[.agg #[.int .i64 num, .int .i64 den]] w' fun e w'' => e = .returned (.bool false) ∧ Gr w' w'') := fun w' => by rw [← hs]; exact rsuitable_any num den w' hn hd
  clear hn hd hs
  go_enter Tryd.func30, Tryd.ntmps30
  go_wp2_with (go_at_call 52; (with_reducible refine (HS.out _).mono ?_); rintro e w1 ⟨rfl, hg1⟩)
  simp [bodyPost, results, Tryd.results30, go_sem]
  exact (by repeat (first | with_reducible exact Gr.refl _ | with_reducible assumption | refine Gr.setCell ?_ (by first | omega | (simp; done) | (simp; omega)) _ | refine Gr.alloc ?_ _ | refine Gr.drew ?_ | refine Gr.drewN ?_ _ | refine Gr.trans ?_ (by with_reducible assumption)))

set_option maxRecDepth 20000 in
set_option maxHeartbeats 4000000 in
theorem rparse_any (s : ByteArray) (num den : Int) (w : World) (hn : I64 num) (hd : I64 den) (hs : suB num den = true) (hz : s.size < 4294967281) (hT : Pow w) :
    Calls Tryd.prog 30 #[.string s, .agg #[.int .i64 num, .int .i64 den]] w fun e w' => ∃ v, e = .returned v ∧ Gr w w' ∧ PaR num den s.data.toList w' v := by
  have HS : Hid (∀ w', Calls Tryd.prog 52 #[.agg #[.int .i64 num, .int .i64 den]] w' fun e w'' => e = .returned (.bool true) ∧ Gr w' w'') := fun w' => by rw [← hs]; exact rsuitable_any num den w' hn hd
  obtain ⟨L, okL, hL, hok⟩ : ∃ L okL, (lnsG [] s.data.toList).1.map toBa = L ∧ decide ((lnsG [] s.data.toList).2 = []) = okL := ⟨_, _, rfl, rfl⟩
  have HLn : Hid (∀ w', Calls Tryd.prog 57 #[.string s] w' fun e w'' => ∃ v, e = .returned (.tuple #[v, .bool okL]) ∧ Gr w' w'' ∧ StrsR w'' v L) := fun w' => by rw [← hL, ← hok]; exact lines_any s w' hz
  have HQ : Hid (∀ (t : ByteArray), t.size = 12 → ∃ (n : Int) (ok : Bool), (∀ w', Calls Tryd.prog 58 #[.string t, .agg #[.int .i64 num, .int .i64 den]] w' fun e w'' => e = .returned (.tuple #[.int .i64 n, .bool ok]) ∧ Gr w' w'') ∧ 0 ≤ n ∧ n ≤ 2147483647 ∧ (∀ n0, Hit num den t.data.toList n0 → n = n0 ∧ ok = true)) := fun t ht => frame_det t num den hs ht
  have HF : Hid (∀ (v : Value) (cs : List Cu) w', Gr w w' → Cues w' v cs → cs.length ≤ 4294967281 → Calls Tryd.prog 28 #[v, .agg #[.int .i64 num, .int .i64 den]] w' fun e w'' => ∃ (x : ByteArray) (er : Int), e = .returned (.tuple #[.string x, .int .i64 er]) ∧ Gr w' w'' ∧ Hid ((er = 0 ↔ vCues cs = true ∧ fmtG num den cs = true) ∧ (er = 0 → x.data.toList = fmtT num den 0 cs))) := by
    intro v cs w' hg hC hcl
    refine (rformat_any v cs num den w' hC hn hd (Pow.gr hg hT) (by omega)).mono ?_
    rintro e w'' ⟨rfl, hg2⟩
    refine ⟨_, _, rfl, hg2, Lib.hid ⟨⟨fun h => ⟨(foE_zero h).1, (foE_zero h).2.2.1⟩, fun h => ?_⟩, fun h => ?_⟩⟩
    · unfold foE fmtEE foB; rw [h.1, hs, h.2]; simp
    · show foS num den cs = _
      exact (foE_zero h).2.2.2
  have hnew := Cel.new w #[.int .i64 num, .int .i64 den] 47
  have hs0 := Lib.hid hs
  have hJ : Hid (okL = true → JL num den s.data.toList L []) := Lib.hid (fun _ => by rw [← hL]; exact JL.start hs _)
  have hJ2 : Hid (okL = false → ∀ X, ¬ IsF num den s.data.toList X) := Lib.hid (fun h => JL.rest hs (by rw [← hok] at h; exact of_decide_eq_false h))
  have hLn : L.length ≤ s.size := by rw [← hL, List.length_map, ← ba_len s]; exact lnsG_len _ _
  have hLe : Hid (∀ x ∈ L, x.size ≤ s.size) := Lib.hid (fun x hx => by
    rw [← hL] at hx
    obtain ⟨y, hy, rfl⟩ := List.mem_map.1 hx
    have := lnsG_el _ _ y hy
    rw [ba_len] at this
    show y.length ≤ _
    simpa using this)
  clear hs hn hd hT hL hok
  go_enter Tryd.func30, Tryd.ntmps30
  go_wp2_with (first
    | (go_at_call 52; (with_reducible refine (HS.out _).mono ?_); rintro e w1 ⟨rfl, hg1⟩; have kR1 := hnew.gr hg1)
    | (go_at_call 57; (with_reducible refine (HLn.out _).mono ?_); rintro e w2 ⟨lv, rfl, hg2, hs2⟩; obtain ⟨p2, cL, rfl, hsh2⟩ := hs2.shape; have hsh2 := Lib.hid hsh2; have kR2 := kR1.gr hg2; cases okL))
  · have hN := Lib.hid (hJ2.out (by first | rfl | trivial))
    simp [bodyPost, results, Tryd.results30, go_sem]
    exact ⟨(by repeat (first | with_reducible exact Gr.refl _ | with_reducible assumption | refine Gr.setCell ?_ (by first | omega | (simp; done) | (simp; omega)) _ | refine Gr.alloc ?_ _ | refine Gr.drew ?_ | refine Gr.drewN ?_ _ | refine Gr.trans ?_ (by with_reducible assumption))), .inl ⟨rfl, hN.out⟩⟩
  · have hJ0 := Lib.hid (hJ.out (by first | rfl | trivial))
    have hgw : Gr w w2 := (((Gr.refl w).alloc _).trans hg1).trans hg2
    have hz2 : w.heap.size + 1 ≤ w2.heap.size := by have := kR2.lt; omega
    clear hJ hJ2 kR1 hnew hg1 HS HLn
    obtain ⟨ic, hic, hic0, hic1, hic2⟩ := info_parts infoCue
    obtain ⟨is, his, hs0i, hs1i, hs2i⟩ := info_parts infoStr
    go_loopw [8, 9] (fun o i wr => ∃ (k : Nat) (cs : List Cu), i = .int .i64 k ∧ k ≤ L.length + 1 ∧ cs.length ≤ k ∧ Gr w wr ∧ w2.heap.size ≤ wr.heap.size ∧ Cel wr w.heap.size [.int .i64 num, .int .i64 den] ∧ StrsR wr (.slice p2 L.length cL) L ∧ CuesO w2.heap.size 66 wr o cs ∧ Hid (JL num den s.data.toList (L.drop k) cs ∧ (∀ c ∈ cs, CuOk c))) (fun _ i _ => L.length + 2 - (RowKit.intOf i).toNat)
    case atStart => exact ⟨0, [], rfl, by omega, Nat.le_refl _, hgw, Nat.le_refl _, kR2, hs2, CuesO.nil _ _ _, Lib.hid ⟨by simpa using hJ0.out, fun c hc => (by cases hc)⟩⟩
    case round =>
      obtain ⟨k, cs, rfl, hk, hcl, hg, hwz, hk0, hLr, hO, hno⟩ := hrel
      clear hJ0 hgw kR2 hs2
      obtain ⟨p9, c9, rfl⟩ := own_shape hO.own
      have hO := Lib.hid hO
      by_cases c1 : k < L.length
      · have q1 : decide (k < L.length) = true := decide_eq_true c1
        have hne : L.drop k ≠ [] := fun e => by have := congrArg List.length e; rw [List.length_drop] at this; simp at this; omega
        obtain ⟨x0, x1, x2, x3, x4⟩ := hk0.two
        by_cases c2 : k + 1 < L.length
        · have q2 : decide ((L.length : Int) ≤ (k : Int) + 1) = false := decide_eq_false (by omega)
          obtain ⟨pp, cp, hp2, hh2⟩ := hLr.shape
          rcases hh2 with h | ⟨b2, o2, ha2, hb2, hc2⟩
          · omega
          injection hp2 with e1 e2 e3
          subst e1 e3
          subst ha2
          have hb0 : b2 < w2.heap.size := by
            rcases hsh2.out with h | ⟨b, o, h1, h2, _⟩
            · omega
            · injection h1 with h1; injection h1 with h1; omega
          have hcell := hc2 (k + 1) c2
          have hcw : L.drop k = L[k] :: L[k + 1] :: L.drop (k + 2) := by rw [List.drop_eq_getElem_cons c1, List.drop_eq_getElem_cons c2]
          have hcw := Lib.hid hcw
          have hLr := Lib.hid hLr
          have hc2 := Lib.hid hc2
          obtain ⟨t, ht⟩ : ∃ t, L[k + 1] = t := ⟨_, rfl⟩
          rw [ht] at hcell
          have ht := Lib.hid ht
          by_cases c3 : t.size = 29
          · have q3 : ((t.size : Int) != 29) = false := by simp [c3]
            have h29 : 29 ≤ t.size := by omega
            obtain ⟨n1, k1, F1, a0, a1, H1⟩ := HQ.out (t.extract 0 12) (by rw [ByteArray.size_extract]; omega)
            obtain ⟨n2, k2, F2, b0, b1, H2⟩ := HQ.out (t.extract 17 29) (by rw [ByteArray.size_extract]; omega)
            have F1 := Lib.hid F1
            have F2 := Lib.hid F2
            have H1 := Lib.hid H1
            have H2 := Lib.hid H2
            have c3 := Lib.hid c3
            clear hne
            go_wp2
            refine wp_region_gr (by kernel_rfl) (by kernel_rfl) (fun hq1 hq2 => ?_)
            repeat (first | go_big_quiet_skip | (go_big_quiet_want; go_big_quiet_op; first | go_big_quiet_on | (apply Exists.intro; refine ⟨fun _ => ?_, ?_⟩; (· ((go_at_call 58; with_reducible exact gr_call (F1.out _)))); go_big_quiet_on)))
            refine wpQuiet_nil ?_
            clear hq1 hq2
            rintro w3 ⟨⟨_, hg3⟩, rfl⟩
            obtain ⟨hc3, hf3⟩ := hg3.cells
            have hz3 := hg3.size
            (try simp at hz3); (try have hl3_0_0 : w.heap.size < w3.heap.size := by omega); (try have hm3_0_0 : w.heap.size ≤ w3.heap.size := by omega); (try have hl3_0_1 : w.heap.size + 1 < w3.heap.size := by omega); (try have hl3_0_2 : w.heap.size + 2 < w3.heap.size := by omega); (try have hl3_1_0 : w1.heap.size < w3.heap.size := by omega); (try have hm3_1_0 : w1.heap.size ≤ w3.heap.size := by omega); (try have hl3_1_1 : w1.heap.size + 1 < w3.heap.size := by omega); (try have hl3_1_2 : w1.heap.size + 2 < w3.heap.size := by omega); (try have hl3_2_0 : w2.heap.size < w3.heap.size := by omega); (try have hm3_2_0 : w2.heap.size ≤ w3.heap.size := by omega); (try have hl3_2_1 : w2.heap.size + 1 < w3.heap.size := by omega); (try have hl3_2_2 : w2.heap.size + 2 < w3.heap.size := by omega)
            have y3 := (hc3 b2 _ hb2).trans hcell
            have k3 := hk0.gr hg3
            obtain ⟨v0, v1, v2, v3, v4⟩ := k3.two
            have h17 : (17 : Int) ≤ (t.size : Int) := by omega
            have h17n : 17 ≤ t.size := by omega
            have hx3 : b2 < w3.heap.size := Nat.lt_of_lt_of_le hb2 hg3.size
            clear x0 x1 x2 x3 x4 hcell hc3 hf3
            go_wp2
            refine wp_region_gr (by kernel_rfl) (by kernel_rfl) (fun hq1 hq2 => ?_)
            repeat (first | go_big_quiet_skip | (go_big_quiet_want; go_big_quiet_op; first | go_big_quiet_on | (apply Exists.intro; refine ⟨fun _ => ?_, ?_⟩; (· ((go_at_call 58; with_reducible exact gr_call (F2.out _)))); go_big_quiet_on)))
            refine wpQuiet_nil ?_
            clear hq1 hq2
            rintro w4 ⟨⟨_, hg4⟩, rfl⟩
            obtain ⟨hc4, hf4⟩ := hg4.cells
            have hz4 := hg4.size
            (try simp at hz4); (try have hl4_0_0 : w.heap.size < w4.heap.size := by omega); (try have hm4_0_0 : w.heap.size ≤ w4.heap.size := by omega); (try have hl4_0_1 : w.heap.size + 1 < w4.heap.size := by omega); (try have hl4_0_2 : w.heap.size + 2 < w4.heap.size := by omega); (try have hl4_1_0 : w1.heap.size < w4.heap.size := by omega); (try have hm4_1_0 : w1.heap.size ≤ w4.heap.size := by omega); (try have hl4_1_1 : w1.heap.size + 1 < w4.heap.size := by omega); (try have hl4_1_2 : w1.heap.size + 2 < w4.heap.size := by omega); (try have hl4_2_0 : w2.heap.size < w4.heap.size := by omega); (try have hm4_2_0 : w2.heap.size ≤ w4.heap.size := by omega); (try have hl4_2_1 : w2.heap.size + 1 < w4.heap.size := by omega); (try have hl4_2_2 : w2.heap.size + 2 < w4.heap.size := by omega); (try have hl4_3_0 : w3.heap.size < w4.heap.size := by omega); (try have hm4_3_0 : w3.heap.size ≤ w4.heap.size := by omega); (try have hl4_3_1 : w3.heap.size + 1 < w4.heap.size := by omega); (try have hl4_3_2 : w3.heap.size + 2 < w4.heap.size := by omega)
            have hgf : Gr w w4 := (hg.trans hg3).trans hg4
            have fail_ : (k1 = false ∨ k2 = false) → ∀ X, ¬ IsF num den s.data.toList X := by
              intro hk X hX
              have hj := hno.out.1
              rw [hcw.out, ht.out] at hj
              obtain ⟨c, r, _, _, _, u1, u2, _⟩ := hj.times hs0.out H1.out H2.out X hX
              rcases hk with hk | hk
              · rw [hk] at u1; cases u1.2
              · rw [hk] at u2; cases u2.2
            have fail_ := Lib.hid fail_
            cases k1
            · have hN := Lib.hid (fail_.out (.inl rfl))
              go_wp2
              simp [bodyPost, results, Tryd.results30, go_sem]
              exact ⟨hgf, .inl ⟨rfl, hN.out⟩⟩
            cases k2
            · have hN := Lib.hid (fail_.out (.inr rfl))
              go_wp2
              simp [bodyPost, results, Tryd.results30, go_sem]
              exact ⟨hgf, .inl ⟨rfl, hN.out⟩⟩
            go_wp2
            have hStep : Hid (∀ (m : Nat) (px : Option Addr) (cx : Nat), k + 2 + m ≤ L.length → (∀ x ∈ (L.drop (k + 2)).take m, x.size ≠ 0) → (∀ x, (L.drop (k + 2))[m]? = some x → x.size = 0) →
                Hid (JL num den s.data.toList (L.drop (k + 2 + m + 1)) (cs ++ [Cu.mk n1 n2 (.slice px m cx) ((L.drop (k + 2)).take m)]) ∧ (∀ c ∈ cs ++ [Cu.mk n1 n2 (.slice px m cx) ((L.drop (k + 2)).take m)], CuOk c))) := by
              refine Lib.hid (fun m px cx hm hall hstop => Lib.hid ⟨?_, ?_⟩)
              · have hj := hno.out.1
                rw [hcw.out, ht.out] at hj
                have := hj.step hs0.out (fun n0 h => ⟨(H1.out n0 h).1, rfl⟩) (fun n0 h => ⟨(H2.out n0 h).1, rfl⟩) m (.slice px m cx) hall hstop (by rw [List.length_drop]; omega)
                rw [List.drop_drop] at this
                rw [show k + 2 + m + 1 = k + 2 + (m + 1) by omega]
                exact this
              · intro c hc
                rcases List.mem_append.1 hc with h | h
                · exact hno.out.2 c h
                · rw [List.mem_singleton.1 h]
                  refine ⟨by simp only; omega, by simp only; omega, by simp only; omega, by simp only; omega, ?_, ?_⟩
                  · simp only [List.length_take, List.length_drop]; omega
                  · intro x hx
                    have := hLe.out x (List.mem_of_mem_drop (List.mem_of_mem_take hx))
                    omega
            have hgC : Gr wr (w4.alloc (.cells #[.int .i64 n1, .int .i64 n2, .slice none 0 0] 66)) := (hg3.trans hg4).alloc _
            have hkC := Cel.new w4 #[.int .i64 n1, .int .i64 n2, .slice none 0 0] 66
            have hB : wr.heap.size ≤ w4.heap.size := (hg3.trans hg4).size
            generalize w4.alloc (.cells #[.int .i64 n1, .int .i64 n2, .slice none 0 0] 66) = U at *
            generalize w4.heap.size = B at *
            go_loopw [9] (fun iv wx => ∃ (m : Nat) (lvv : Value), iv = .int .i64 ((k : Int) + 2 + m) ∧ k + 2 + m ≤ L.length ∧ Gr wr wx ∧ Cel wx B [.int .i64 n1, .int .i64 n2, lvv] ∧ wx.ownsRow (B + 1) 9 1 lvv m (((L.drop (k + 2)).take m).map Value.string) ∧ Hid (∀ x ∈ (L.drop (k + 2)).take m, x.size ≠ 0)) (fun iv _ => L.length - (RowKit.intOf iv).toNat)
            case atStart => exact ⟨0, .slice none 0 0, by go_num, by omega, hgC, hkC, World.ownsRow_nil _ _ _ _, Lib.hid (fun x hx => by cases hx)⟩
            case round =>
              obtain ⟨m, lvv, rfl, hm, hgx, hkx, hox, hall⟩ := hrel
              clear hgC hkC
              obtain ⟨px, cx, rfl⟩ := own_shape hox
              obtain ⟨z0, z1, z2, z3, z4, z5, z6⟩ := hkx.three
              have hox := Lib.hid hox
              by_cases cA : k + 2 + m < L.length
              · have qA : decide ((k : Int) + 2 + m < (L.length : Int)) = true := decide_eq_true (by omega)
                have hce := (hgx.cells.1 b2 _ hb2).trans (hc2.out (k + 2 + m) cA)
                obtain ⟨x, hx⟩ : ∃ x, L[k + 2 + m] = x := ⟨_, rfl⟩
                rw [hx] at hce
                have hx := Lib.hid hx
                have hbx : b2 < wr.heap.size := Nat.lt_of_lt_of_le hb2 hgx.size
                by_cases cE : x.data.toList = []
                · have qe : x.toList.isEmpty = true := by rw [ByteArray.toList_eq, List.isEmpty_iff]; exact cE
                  go_wp2_with (at_builtin; go_loud (refine wpList_append_rd rfl (.tmp 100) (.tmp 102) 22 rfl w2.heap.size 66 ic (.agg #[.int .i64 0, .int .i64 0, .slice none 0 0]) 3 40 (by kernel_rfl) hic hic0 hic1 hic2 rfl (by decide) (.slice p9 cs.length c9) cs.length (flat cs) rfl ((hO.out.gr hgx).own.alloc _) _ 1 [.int .i64 n1, .int .i64 n2, .slice px m cx] rfl (Rd.new wr #[.int .i64 n1, .int .i64 n2, .slice px m cx] 66 1 3 1 rfl) ?_ ?_ ?_ ?_ ?_; (· intro u hu; simp at hu; rcases hu with rfl | rfl | rfl <;> rfl); (· unfold maxLen; omega); (· omega); (· have h1 := hg.size; have h2 := hgx.size; have h3 := hk0.lt; (try simp); omega); intro v8 w8 hown8 hgrow8))
                  have hV : Hid (JL num den s.data.toList (L.drop (k + 2 + m + 1)) (cs ++ [Cu.mk n1 n2 (.slice px m cx) ((L.drop (k + 2)).take m)]) ∧ (∀ c ∈ cs ++ [Cu.mk n1 n2 (.slice px m cx) ((L.drop (k + 2)).take m)], CuOk c)) := hStep.out m px cx hm hall.out (fun x' hx' => by
                    rw [List.getElem?_drop, List.getElem?_eq_getElem cA, hx.out] at hx'
                    injection hx' with hx'
                    rw [← hx', ← ba_len, cE]
                    rfl)
                  have hge := own_ge hO.out.own
                  have hg8 : Gr w w8 := ((hg.trans hgx).alloc _).grown hgrow8 (fun k hk => by have := hge k hk; omega)
                  have hO8 := (hO.out.gr (hgx.alloc (.cells #[.int .i64 n1, .int .i64 n2, .slice px m cx] 66))).app ⟨n1, n2, .slice px m cx, (L.drop (k + 2)).take m⟩ (by
                    have := Rd.own (hox.out.alloc (.cells #[.int .i64 n1, .int .i64 n2, .slice px m cx] 66))
                    unfold StrsR
                    rwa [show ((L.drop (k + 2)).take m).length = m by rw [List.length_take, List.length_drop]; omega]) (Far.row (hox.out.alloc _) (by decide)) hown8 hgrow8
                  have hk8 := (hk0.gr (hgx.alloc (.cells #[.int .i64 n1, .int .i64 n2, .slice px m cx] 66))).grown hgrow8 (fun h => by have := hge _ h; omega)
                  have hz8 : w2.heap.size ≤ w8.heap.size := by have h1 := World.grownBy.size hgrow8; have h2 := hgx.size; simp at h1; omega
                  have hL8 := Rd.grown hgrow8 (.inr (.inl (fun h => by have := hge b2 (by rw [← h]; rfl); omega))) (hLr.out.gr (hgx.alloc (.cells #[.int .i64 n1, .int .i64 n2, .slice px m cx] 66)))
                  clear hown8 hgrow8
                  go_roundw
                  case rel => exact ⟨k + 2 + m + 1, cs ++ [Cu.mk n1 n2 (.slice px m cx) ((L.drop (k + 2)).take m)], by go_num, by omega, by rw [List.length_append]; show _ + 1 ≤ _; omega, hg8, by omega, hk8, hL8, hO8, hV⟩
                  case measure => simp [RowKit.intOf]; omega
                · have qe : x.toList.isEmpty = false := by rw [ByteArray.toList_eq, ← Bool.not_eq_true, List.isEmpty_iff]; exact cE
                  go_wp2
                  have hky : Cel wr B [.int .i64 n1, .int .i64 n2, .slice px m cx] ∧ wr.cell? ⟨b2, o2 + (k + 2 + m), none⟩ = some (.string x) := ⟨hkx, hce⟩
                  refine wp_region_still (Keep 6 (fun y => Cel y B [.int .i64 n1, .int .i64 n2, .slice px m cx] ∧ y.cell? ⟨b2, o2 + (k + 2 + m), none⟩ = some (.string x))) 10 rfl (by kernel_rfl) ?_
                  show stillAny _ _ _ _ _ _ #[false, false, false, false, false, false, false, false, false, false] _ _
                  refine still_pure 0 (v := .pointer (some ⟨B, 2, none⟩)) rfl (by kernel_rfl) (by kernel_rfl) (by kernel_rfl) (fun _ => hky) rfl (fun w hw => ?_) ?_
                  · simp [execOp, go_sem] <;> (intros; omega)
                  simp only [Act.put, List.setIfInBounds_toArray, List.set_cons_succ, List.set_cons_zero]
                  refine still_pure 1 (v := .slice px m cx) rfl (by kernel_rfl) (by kernel_rfl) (by kernel_rfl) (fun _ => hky) rfl (fun w hw => ?_) ?_
                  · replace hw := hw (by decide)
                    have hq0 := hw.1.three.2.2.2.1
                    (try simp at hq0)
                    simp [execOp, go_sem, hq0]
                  simp only [Act.put, List.setIfInBounds_toArray, List.set_cons_succ, List.set_cons_zero]
                  refine still_pure 2 (v := .slice (some ⟨b2, o2, none⟩) L.length cL) rfl (by kernel_rfl) (by kernel_rfl) (by kernel_rfl) (fun _ => hky) rfl (fun w hw => ?_) ?_
                  · simp [execOp, go_sem] <;> (intros; omega)
                  simp only [Act.put, List.setIfInBounds_toArray, List.set_cons_succ, List.set_cons_zero]
                  refine still_pure 3 (v := .int .i64 ((k : Int) + 2 + m)) rfl (by kernel_rfl) (by kernel_rfl) (by kernel_rfl) (fun _ => hky) rfl (fun w hw => ?_) ?_
                  · simp [execOp, go_sem] <;> (intros; omega)
                  simp only [Act.put, List.setIfInBounds_toArray, List.set_cons_succ, List.set_cons_zero]
                  refine still_pure 4 (v := .pointer (some ⟨b2, o2 + (k + 2 + m), none⟩)) rfl (by kernel_rfl) (by kernel_rfl) (by kernel_rfl) (fun _ => hky) rfl (fun w hw => ?_) ?_
                  · have i1 : ((k : Int) + 2 + (m : Int)).toNat = k + 2 + m := by omega
                    have i2 : (0 : Int) ≤ (k : Int) + 2 + (m : Int) := by omega
                    have i3 : (k : Int) + 2 + (m : Int) < (L.length : Int) := by omega
                    simp [execOp, go_sem, i1, i2, i3]
                  simp only [Act.put, List.setIfInBounds_toArray, List.set_cons_succ, List.set_cons_zero]
                  refine still_pure 5 (v := .string x) rfl (by kernel_rfl) (by kernel_rfl) (by kernel_rfl) (fun _ => hky) rfl (fun w hw => ?_) ?_
                  · replace hw := hw (by decide)
                    have hq0 := hw.2
                    (try simp at hq0)
                    simp [execOp, go_sem, hq0]
                  simp only [Act.put, List.setIfInBounds_toArray, List.set_cons_succ, List.set_cons_zero]
                  refine still_pick [6] (by kernel_rfl) (by decide) ?_
                  intro i hi
                  obtain rfl : i = 6 := by simpa using hi
                  refine still_one (by rfl) (fun R hR => ?_)
                  simp only [List.getElem_toArray, List.getElem_cons_succ, List.getElem_cons_zero]
                  go_wp2_with fail
                  have hk1x := hkx.alloc (.cells #[.string x] 9)
                  have hc1x : (wr.alloc (.cells #[.string x] 9)).cell? ⟨b2, o2 + (k + 2 + m), none⟩ = some (.string x) := (((Gr.refl wr).alloc (.cells #[.string x] 9)).cells.1 b2 _ hbx).trans hce
                  refine only_normal (hR _ _ (Keep.step (fun _ => ⟨hk1x, hc1x⟩)) ?_)
                  clear hR R
                  simp only [Act.put, List.setIfInBounds_toArray, List.set_cons_succ, List.set_cons_zero]
                  refine still_pick [7] (by kernel_rfl) (by decide) ?_
                  intro i hi
                  obtain rfl : i = 7 := by simpa using hi
                  refine still_one (by rfl) (fun R hR => ?_)
                  simp only [List.getElem_toArray, List.getElem_cons_succ, List.getElem_cons_zero]
                  go_wp2_with (at_builtin; go_loud (refine wpList_append_rd rfl (.tmp 92) (.tmp 97) 35 rfl (B + 1) 9 is (.string ByteArray.empty) 1 16 (by kernel_rfl) his hs0i hs1i hs2i rfl (by decide) (.slice px m cx) m _ rfl (hox.out.alloc _) _ 1 [.string x] rfl (Rd.new wr #[.string x] 9 1 1 1 rfl) ?_ ?_ ?_ ?_ ?_; (· intro u hu; simp at hu; subst hu; rfl); (· unfold maxLen; omega); (· omega); (· have := hkx.lt; simp; omega); intro v9 w9 hown9 hgrow9))
                  have hge9 := own_ge hox.out
                  have hgx9 := (hgx.alloc (.cells #[.string x] 9)).drew.grown hgrow9 (fun k hk => by have := hge9 k hk; omega)
                  have hk9 := hk1x.drew.grown hgrow9 (fun h => by have := hge9 _ h; omega)
                  have hc9 := (hgx9.cells.1 b2 _ hb2).trans (hc2.out (k + 2 + m) cA)
                  rw [hx.out] at hc9
                  obtain ⟨p9', c9', rfl⟩ := own_shape hown9
                  clear hgrow9
                  refine only_normal (hR _ _ (Keep.step (fun _ => ⟨hk9, hc9⟩)) ?_)
                  clear hR R
                  simp only [Act.put, List.setIfInBounds_toArray, List.set_cons_succ, List.set_cons_zero]
                  refine still_pick [8] (by kernel_rfl) (by decide) ?_
                  intro i hi
                  obtain rfl : i = 8 := by simpa using hi
                  refine still_one (by rfl) (fun R hR => ?_)
                  simp only [List.getElem_toArray, List.getElem_cons_succ, List.getElem_cons_zero]
                  go_wp2_with fail
                  refine only_normal (hR _ _ (Keep.step (fun h => h)) ?_)
                  clear hR R
                  simp only [Act.put, List.setIfInBounds_toArray, List.set_cons_succ, List.set_cons_zero]
                  obtain ⟨d0, d1, d2, d3, d4, d5, d6⟩ := hk9.three
                  refine still_pick [9] (by kernel_rfl) (by decide) ?_
                  intro i hi
                  obtain rfl : i = 9 := by simpa using hi
                  refine still_one (by rfl) (fun R hR => ?_)
                  simp only [List.getElem_toArray, List.getElem_cons_succ, List.getElem_cons_zero]
                  go_wp2_with fail
                  refine only_normal (hR _ _ (Keep.last (by kernel_rfl)) ?_)
                  clear hR R
                  simp only [Act.put, List.setIfInBounds_toArray, List.set_cons_succ, List.set_cons_zero]
                  refine still_done (by kernel_rfl) ?_
                  have hgeF := own_ge hown9
                  have hkF := hk9.set (k := 2) (by simp) (.slice p9' (m + 1) c9')
                  have hoF := World.ownsRow.kept hown9 (grown_setCell w9 ⟨B, 2, none⟩ (.slice p9' (m + 1) c9')) (.inr (fun h => by have := hgeF B h; omega))
                  have hgF := hgx9.grown (grown_setCell w9 ⟨B, 2, none⟩ (.slice p9' (m + 1) c9')) (fun k hk => by have hk2 : B = k := (by simpa using hk); omega)
                  have hT : (L.drop (k + 2)).take (m + 1) = (L.drop (k + 2)).take m ++ [x] := by
                    rw [List.take_add_one, List.getElem?_drop, List.getElem?_eq_getElem cA, hx.out]; rfl
                  have hT := Lib.hid hT
                  clear hown9 hk9 hc9 hk1x hc1x d0 d1 d2 d3 d4 d5 d6 hgx9 z0 z1 z2 z3 z4 z5 z6
                  go_wp2
                  go_roundw
                  case rel =>
                    refine ⟨m + 1, .slice p9' (m + 1) c9', by go_num, by omega, hgF, hkF, ?_, Lib.hid (fun y hy => ?_)⟩
                    · rw [hT.out, List.map_append]; exact hoF
                    · rw [hT.out] at hy
                      rcases List.mem_append.1 hy with h | h
                      · exact hall.out y h
                      · rw [List.mem_singleton.1 h]
                        intro h0
                        rw [← ba_len] at h0
                        exact cE (List.eq_nil_of_length_eq_zero h0)
                  case measure => simp [RowKit.intOf]; omega
              · have qA : decide ((k : Int) + 2 + m < (L.length : Int)) = false := decide_eq_false (by omega)
                go_wp2_with (at_builtin; go_loud (refine wpList_append_rd rfl (.tmp 100) (.tmp 102) 22 rfl w2.heap.size 66 ic (.agg #[.int .i64 0, .int .i64 0, .slice none 0 0]) 3 40 (by kernel_rfl) hic hic0 hic1 hic2 rfl (by decide) (.slice p9 cs.length c9) cs.length (flat cs) rfl ((hO.out.gr hgx).own.alloc _) _ 1 [.int .i64 n1, .int .i64 n2, .slice px m cx] rfl (Rd.new wr #[.int .i64 n1, .int .i64 n2, .slice px m cx] 66 1 3 1 rfl) ?_ ?_ ?_ ?_ ?_; (· intro u hu; simp at hu; rcases hu with rfl | rfl | rfl <;> rfl); (· unfold maxLen; omega); (· omega); (· have h1 := hg.size; have h2 := hgx.size; have h3 := hk0.lt; (try simp); omega); intro v8 w8 hown8 hgrow8))
                have hV : Hid (JL num den s.data.toList (L.drop (k + 2 + m + 1)) (cs ++ [Cu.mk n1 n2 (.slice px m cx) ((L.drop (k + 2)).take m)]) ∧ (∀ c ∈ cs ++ [Cu.mk n1 n2 (.slice px m cx) ((L.drop (k + 2)).take m)], CuOk c)) := hStep.out m px cx hm hall.out (fun x' hx' => by
                  rw [List.getElem?_drop, List.getElem?_eq_none (by omega)] at hx'
                  cases hx')
                have hge := own_ge hO.out.own
                have hg8 : Gr w w8 := ((hg.trans hgx).alloc _).grown hgrow8 (fun k hk => by have := hge k hk; omega)
                have hO8 := (hO.out.gr (hgx.alloc (.cells #[.int .i64 n1, .int .i64 n2, .slice px m cx] 66))).app ⟨n1, n2, .slice px m cx, (L.drop (k + 2)).take m⟩ (by
                  have := Rd.own (hox.out.alloc (.cells #[.int .i64 n1, .int .i64 n2, .slice px m cx] 66))
                  unfold StrsR
                  rwa [show ((L.drop (k + 2)).take m).length = m by rw [List.length_take, List.length_drop]; omega]) (Far.row (hox.out.alloc _) (by decide)) hown8 hgrow8
                have hk8 := (hk0.gr (hgx.alloc (.cells #[.int .i64 n1, .int .i64 n2, .slice px m cx] 66))).grown hgrow8 (fun h => by have := hge _ h; omega)
                have hz8 : w2.heap.size ≤ w8.heap.size := by have h1 := World.grownBy.size hgrow8; have h2 := hgx.size; simp at h1; omega
                have hL8 := Rd.grown hgrow8 (.inr (.inl (fun h => by have := hge b2 (by rw [← h]; rfl); omega))) (hLr.out.gr (hgx.alloc (.cells #[.int .i64 n1, .int .i64 n2, .slice px m cx] 66)))
                clear hown8 hgrow8
                go_roundw
                case rel => exact ⟨k + 2 + m + 1, cs ++ [Cu.mk n1 n2 (.slice px m cx) ((L.drop (k + 2)).take m)], by go_num, by omega, by rw [List.length_append]; show _ + 1 ≤ _; omega, hg8, by omega, hk8, hL8, hO8, hV⟩
                case measure => simp [RowKit.intOf]; omega
          · have q3 : ((t.size : Int) != 29) = true := by simp; omega
            have hN : Hid (∀ X, ¬ IsF num den s.data.toList X) := Lib.hid (fun X hX => by
              obtain ⟨c, p, t', r, _, e, et, _⟩ := hno.out.1.head hs0.out hne X hX
              rw [hcw.out] at e
              injection e with e1 e2
              injection e2 with e2 e3
              rw [ht.out] at e2
              subst e2
              have := timL_len num den c
              rw [← et, ba_len] at this
              exact c3 this)
            go_wp2
            simp [bodyPost, results, Tryd.results30, go_sem]
            exact ⟨hg, .inl ⟨rfl, hN.out⟩⟩
        · have q2 : decide ((L.length : Int) ≤ (k : Int) + 1) = true := decide_eq_true (by omega)
          have hN : Hid (∀ X, ¬ IsF num den s.data.toList X) := Lib.hid (fun X hX => by
            obtain ⟨c, p, t', r, _, e, _⟩ := hno.out.1.head hs0.out hne X hX
            have := congrArg List.length e
            rw [List.length_drop] at this
            simp at this
            omega)
          go_wp2
          simp [bodyPost, results, Tryd.results30, go_sem]
          exact ⟨hg, .inl ⟨rfl, hN.out⟩⟩
      · have q1 : decide (k < L.length) = false := decide_eq_false c1
        have hdr : L.drop k = [] := List.drop_of_length_le (by omega)
        obtain ⟨x0, x1, x2, x3, x4⟩ := hk0.two
        have hC : Hid (Cues wr (.slice p9 cs.length c9) cs) := ⟨hO.out.read, hno.out.2, by omega⟩
        go_wp2_with (go_at_call 28; (with_reducible refine (HF.out _ cs _ hg hC.out ?_).mono ?_); (· omega); rintro e w5 ⟨x, er, rfl, hg5, hx5⟩; rcases Classical.em (er = 0) with he0 | he0; (have g1 : (er != 0) = false := by simp [he0]); rcases Classical.em (x = s) with hxs | hxs; (have g2 : (x.toList == s.toList) = true := by simp [hxs]); rotate_left; (have g2 : (x.toList == s.toList) = false := by rw [ByteArray.toList_eq, ByteArray.toList_eq]; exact beq_eq_false_iff_ne.2 (fun h => hxs (ba_ext h))); rotate_left; (have g1 : (er != 0) = true := by simp [he0]); rotate_left)
        · have hF : Hid (IsF num den s.data.toList cs) := Lib.hid ⟨(hx5.out.1.1 he0).1, (hx5.out.1.1 he0).2, by rw [← hx5.out.2 he0, hxs]⟩
          simp [bodyPost, results, Tryd.results30, go_sem]
          exact ⟨hg.trans hg5, .inr ⟨_, cs, rfl, (hO.out.gr hg5).read, hF.out⟩⟩
        · have hN : Hid (∀ X, ¬ IsF num den s.data.toList X) := by
            refine Lib.hid (fun X hX => hxs (ba_ext ?_))
            have hj := hno.out.1
            rw [hdr] at hj
            have ha := hj.done X hX
            rw [hx5.out.2 he0, fmtT_abs num den 0 ha, hX.2.2]
          simp [bodyPost, results, Tryd.results30, go_sem]
          exact ⟨hg.trans hg5, .inl ⟨rfl, hN.out⟩⟩
        · have hN : Hid (∀ X, ¬ IsF num den s.data.toList X) := by
            refine Lib.hid (fun X hX => he0 (hx5.out.1.2 ?_))
            have hj := hno.out.1
            rw [hdr] at hj
            have ha := hj.done X hX
            rw [vCues_abs ha, fmtG_abs num den ha]
            exact ⟨hX.1, hX.2.1⟩
          simp [bodyPost, results, Tryd.results30, go_sem]
          exact ⟨hg.trans hg5, .inl ⟨rfl, hN.out⟩⟩
end Go.Proofs.YtckmebfgianeoaaDoor
