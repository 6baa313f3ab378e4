/-
  Contract of parseCue of package captions.
  Conditions: the string has fewer than 4,294,967,281 bytes; the variable of bytealg holds an int; the rate is suitable.
-/
import Derived.Test.YtckmebfgianeoaaDoorWalkPt
import Derived.Outline
namespace Go.Proofs.YtckmebfgianeoaaDoor
open Go.RowKit Go.Lib
set_option linter.unusedSimpArgs false
set_option linter.unusedVariables false

theorem cutx_any (s sep : ByteArray) (w : World) (hM : Mx w) (hs : s.size < 4294967281) :
    Calls Tryd.prog 81 #[.string s, .string sep] w fun e w' => ∃ A B f, e = .returned (.tuple #[.string A, .string B, .bool f]) ∧ Gr w w' ∧ Hid (cut s.data.toList sep.data.toList = (A.data.toList, B.data.toList, f)) ∧ A.size ≤ s.size ∧ B.size ≤ s.size ∧ (f = true → 0 < sep.size → B.size < s.size) := by
  refine (cutk_any s sep w hM hs).mono ?_
  rintro e w' ⟨rfl, hg⟩
  have hl := cut_lens s.data.toList sep.data.toList
  rw [ba_len, ba_len] at hl
  exact ⟨_, _, _, rfl, hg, Lib.hid (by simp), hl.1, hl.2.1, hl.2.2⟩

def strLn : Value → Nat
  | .string s => s.size
  | _ => 0
/-- what parseCue hands back -/
def PcR (num den : Int) (s : List UInt8) (w w' : World) (v : Value) : Prop :=
  match pcP num den s with
  | none => v = .tuple #[.agg #[.int .i64 0, .int .i64 0, .slice none 0 0], .string ⟨#[]⟩, .bool false]
  | some (c, r) => ∃ lv base, v = .tuple #[.agg #[.int .i64 c.1, .int .i64 c.2.1, lv], .string ⟨r.toArray⟩, .bool true] ∧ w'.ownsRow base 9 1 lv c.2.2.length (c.2.2.map Value.string) ∧ w.heap.size ≤ base

set_option maxRecDepth 20000 in
set_option maxHeartbeats 4000000 in
theorem parseCue_any (s : ByteArray) (num den : Int) (w : World) (hs : suB num den = true) (hz : s.size < 4294967281) (hM : Mx w) :
    Calls Tryd.prog 56 #[.string s, .agg #[.int .i64 num, .int .i64 den]] w fun e w' => ∃ v, e = .returned v ∧ Gr w w' ∧ PcR num den s.data.toList w w' v := by
  have HC : Hid (∀ (t sep : ByteArray) w', Gr w w' → t.size < 4294967281 → Calls Tryd.prog 81 #[.string t, .string sep] w' fun e w'' => ∃ A B f, e = .returned (.tuple #[.string A, .string B, .bool f]) ∧ Gr w' w'' ∧ Hid (cut t.data.toList sep.data.toList = (A.data.toList, B.data.toList, f)) ∧ A.size ≤ t.size ∧ B.size ≤ t.size ∧ (f = true → 0 < sep.size → B.size < t.size)) := fun t sep w' hg ht => cutx_any t sep w' (hM.gr hg) ht
  have HT : Hid (∀ (t : ByteArray) w', t.size < 4294967281 → Calls Tryd.prog 82 #[.string t, .agg #[.int .i64 num, .int .i64 den]] w' fun e w'' => e = .returned (.tuple #[.int .i64 ((ptP num den t.data.toList).getD 0), .bool (ptP num den t.data.toList).isSome]) ∧ Gr w' w'') := fun t w' ht => parseTime_any t num den w' hs (by omega)
  have hnew := Cel.new w #[.int .i64 num, .int .i64 den] 47
  have hkC := Cel.new (w.alloc (.cells #[.int .i64 num, .int .i64 den] 47)) #[.int .i64 0, .int .i64 0, .slice none 0 0] 66
  have hg0 : Gr w ((w.alloc (.cells #[.int .i64 num, .int .i64 den] 47)).alloc (.cells #[.int .i64 0, .int .i64 0, .slice none 0 0] 66)) := ((Gr.refl w).alloc _).alloc _
  have hnew := hnew.alloc (.cells #[.int .i64 0, .int .i64 0, .slice none 0 0] 66)
  rw [show (w.alloc (.cells #[.int .i64 num, .int .i64 den] 47)).heap.size = w.heap.size + 1 by simp] at hkC
  clear hM hs
  go_enter Tryd.func56, Tryd.ntmps56
  go_wp2_with (first
    | (go_at_call 81; (with_reducible refine (HC.out s ⟨#[10]⟩ _ ?_ ?_).mono ?_); (· exact hg0); (· exact hz); rintro e w1 ⟨A1, B1, f1, rfl, hg1, hc1, hA1, hB1, _⟩)
    | (go_at_call 81; (with_reducible refine (HC.out B1 ⟨#[10]⟩ _ ?_ ?_).mono ?_); (· exact hg0.trans hg1); (· omega); rintro e w2 ⟨A2, B2, f2, rfl, hg2, hc2, hA2, hB2, _⟩)
    | (go_at_call 81; (with_reducible refine (HC.out A2 ⟨#[32, 45, 45, 62, 32]⟩ _ ?_ ?_).mono ?_); (· exact (hg0.trans hg1).trans hg2); (· omega); rintro e w3 ⟨A3, B3, f3, rfl, hg3, hc3, hA3, hB3, _⟩; have kC3 := ((hkC.gr hg1).gr hg2).gr hg3; have kR3 := ((hnew.gr hg1).gr hg2).gr hg3; have hgw3 := ((hg0.trans hg1).trans hg2).trans hg3; obtain ⟨y0, y1, y2, y3, y4, y5, y6⟩ := kC3.three; obtain ⟨r0, r1, r2, r3, r4⟩ := kR3.two; clear hg1 hg2 hg3 hnew hkC hg0; cases f3))
  · have hN : pcP num den s.data.toList = none := by
      unfold pcP
      simp only [hc1.out, hc2.out]
      rw [show cut A2.data.toList arw = _ from hc3.out]
      simp
    simp [bodyPost, results, Tryd.results56, go_sem, y1, y2, y3]
    refine ⟨(by repeat (first | with_reducible exact Gr.refl _ | with_reducible assumption | refine Gr.setCell ?_ (by first | omega | (simp; done) | (simp; omega)) _ | refine Gr.alloc ?_ _ | refine Gr.drew ?_ | refine Gr.drewN ?_ _ | refine Gr.trans ?_ (by with_reducible assumption))), ?_⟩
    unfold PcR
    rw [hN]
  · have hT1 : Hid (∀ w', Calls Tryd.prog 82 #[.string A3, .agg #[.int .i64 num, .int .i64 den]] w' fun e w'' => e = .returned (.tuple #[.int .i64 ((ptP num den A3.data.toList).getD 0), .bool (ptP num den A3.data.toList).isSome]) ∧ Gr w' w'') := fun w' => HT.out A3 w' (by omega)
    have hT2 : Hid (∀ w', Calls Tryd.prog 82 #[.string B3, .agg #[.int .i64 num, .int .i64 den]] w' fun e w'' => e = .returned (.tuple #[.int .i64 ((ptP num den B3.data.toList).getD 0), .bool (ptP num den B3.data.toList).isSome]) ∧ Gr w' w'') := fun w' => HT.out B3 w' (by omega)
    obtain ⟨PP, hPP⟩ : ∃ PP, pcP num den s.data.toList = PP := ⟨_, rfl⟩
    have hPP2 := hPP
    unfold pcP at hPP2
    simp only [hc1.out, hc2.out] at hPP2
    rw [show cut A2.data.toList arw = _ from hc3.out] at hPP2
    simp only [Bool.true_eq_false, if_false] at hPP2
    have hPP := Lib.hid hPP
    generalize ptP num den A3.data.toList = O1 at hT1 hPP2
    generalize ptP num den B3.data.toList = O2 at hT2 hPP2
    obtain ⟨v1, k1, hv1, hk1⟩ : ∃ v k, O1.getD 0 = v ∧ O1.isSome = k := ⟨_, _, rfl, rfl⟩
    obtain ⟨v2, k2, hv2, hk2⟩ : ∃ v k, O2.getD 0 = v ∧ O2.isSome = k := ⟨_, _, rfl, rfl⟩
    rw [hv1, hk1] at hT1
    rw [hv2, hk2] at hT2
    have hbad : k1 = false ∨ k2 = false → PP = none := fun h => by
      rw [← hPP2]
      cases O1 with
      | none => rfl
      | some a => cases O2 with
        | none => rfl
        | some b => simp at hk1 hk2; subst hk1 hk2; simp at h
    have hgood : k1 = true → k2 = true → PP = (match plP 6 [] B2.data.toList with | some (ls, r) => some ((v1, v2, ls.map (fun l => (⟨l.toArray⟩ : ByteArray))), r) | none => none) := fun h1 h2 => by
      rw [← hPP2]
      cases O1 with
      | none => simp at hk1; subst hk1; cases h1
      | some a => cases O2 with
        | none => simp at hk2; subst hk2; cases h2
        | some b => simp at hv1 hv2; subst hv1 hv2; rfl
    have hbad := Lib.hid hbad
    have hgood := Lib.hid hgood
    clear hPP2 hv1 hk1 hv2 hk2 hc1 hc2 hc3 HT
    go_wp2_with (first
      | (go_at_call 82; (with_reducible refine (hT1.out _).mono ?_); rintro e w4 ⟨rfl, hg4⟩; have kR4 := kR3.gr hg4; obtain ⟨s0, s1, s2, s3, s4⟩ := kR4.two)
      | (go_at_call 82; (with_reducible refine (hT2.out _).mono ?_); rintro e w5 ⟨rfl, hg5⟩; have kC5 := (kC3.gr hg4).gr hg5; obtain ⟨z0, z1, z2, z3, z4, z5, z6⟩ := kC5.three; have hgw5 := (hgw3.trans hg4).trans hg5; cases k1; rotate_left; cases k2; rotate_left))
    · have hgd := hgood.out (by first | rfl | trivial) (by first | rfl | trivial)
      obtain ⟨PL, hPL⟩ : ∃ PL, plP 6 [] B2.data.toList = PL := ⟨_, rfl⟩
      rw [hPL] at hgd
      have hgd := Lib.hid hgd
      have kU := ((kC5.set (k := 0) (by simp) (.int .i64 v1)).set (k := 1) (by simp) (.int .i64 v2)).set (k := 2) (by simp) (.slice none 0 0)
      have hgU : Gr w (((w5.setCell ⟨w.heap.size + 1, 0, none⟩ (.int .i64 v1)).setCell ⟨w.heap.size + 1, 1, none⟩ (.int .i64 v2)).setCell ⟨w.heap.size + 1, 2, none⟩ (.slice none 0 0)) := by
        refine ((hgw5.setCell ?_ _).setCell ?_ _).setCell ?_ _ <;> (simp; try omega)
      simp only [List.set_cons_zero, List.set_cons_succ] at kU
      generalize ((w5.setCell ⟨w.heap.size + 1, 0, none⟩ (.int .i64 v1)).setCell ⟨w.heap.size + 1, 1, none⟩ (.int .i64 v2)).setCell ⟨w.heap.size + 1, 2, none⟩ (.slice none 0 0) = U at *
      clear hbad hgood hT1 hT2 kC5 kR4 kC3 kR3 hg4 hg5 hgw5 hgw3 y0 y1 y2 y3 y4 y5 y6 r0 r1 r2 r3 r4 s0 s1 s2 s3 s4 z0 z1 z2 z3 z4 z5 z6
      obtain ⟨is, his, hs0, hs1, hs2⟩ := info_parts infoStr
      have HS0 : Hid (plP (6 - ([] : List (List UInt8)).length) [] B2.data.toList = PL) := hPL
      have hB2s : B2.size ≤ s.size := by omega
      go_loopw [0] (fun sv wr => ∃ (t : ByteArray) (ls : List (List UInt8)) (lv : Value), sv = .string t ∧ t.size ≤ s.size ∧ ls.length ≤ 5 ∧ Gr w wr ∧ Cel wr (w.heap.size + 1) [.int .i64 v1, .int .i64 v2, lv] ∧ wr.ownsRow (w.heap.size + 2) 9 1 lv ls.length (ls.map (fun l => Value.string ⟨l.toArray⟩)) ∧ Hid (plP (6 - ls.length) ls t.data.toList = PL)) (fun sv _ => strLn sv)
      case atStart => exact ⟨B2, [], .slice none 0 0, rfl, hB2s, by simp, hgU, kU, World.ownsRow_nil _ _ _ _, HS0⟩
      case round =>
        obtain ⟨t, ls, lv, rfl, htz, hln, hg, hk, hown, hno⟩ := hrel
        clear HS0 hgU kU
        obtain ⟨p9, c9, rfl⟩ := own_shape hown
        have hge := own_ge hown
        have hown := Lib.hid hown
        have hst := hno.out
        rw [show 6 - ls.length = (5 - ls.length) + 1 by omega, plP] at hst
        have hst := Lib.hid hst
        obtain ⟨hx, y1, y2, y3, y4, y5, y6⟩ := hk.three
        by_cases c4 : 4 < ls.length
        · have g4 : decide (4 < ls.length) = true := decide_eq_true c4
          have hN : Hid (PP = none) := by
            refine Lib.hid ?_
            rw [hgd.out, ← hst.out, if_pos (.inr c4)]
          go_wp2_with (go_at_call 81; (with_reducible refine (HC.out t ⟨#[10]⟩ _ hg ?_).mono ?_); (· omega); rintro e w6 ⟨A, B, f, rfl, hg6, hc6, hA6, hB6, hd6⟩; have hk6 := hk.gr hg6; obtain ⟨hx6, z1, z2, z3, z4, z5, z6⟩ := hk6.three; cases f)
          all_goals
            simp [bodyPost, results, Tryd.results56, go_sem, z1, z2, z3]
            refine ⟨(by repeat (first | with_reducible exact Gr.refl _ | with_reducible assumption | refine Gr.setCell ?_ (by first | omega | (simp; done) | (simp; omega)) _ | refine Gr.alloc ?_ _ | refine Gr.drew ?_ | refine Gr.drewN ?_ _ | refine Gr.trans ?_ (by with_reducible assumption))), ?_⟩
            unfold PcR
            rw [hPP.out, hN.out]
        · have g4 : decide (4 < ls.length) = false := decide_eq_false c4
          go_wp2_with (first
            | (go_at_call 81; (with_reducible refine (HC.out t ⟨#[10]⟩ _ hg ?_).mono ?_); (· omega); rintro e w6 ⟨A, B, f, rfl, hg6, hc6, hA6, hB6, hd6⟩; have hk6 := hk.gr hg6; obtain ⟨hx6, z1, z2, z3, z4, z5, z6⟩ := hk6.three; have hst6 := hst.out; rw [show cut t.data.toList [10] = _ from hc6.out] at hst6; simp only at hst6; have hst6 := Lib.hid hst6; cases f; rotate_left; rcases Classical.em (A.data.toList = []) with hA | hA; (have qe : A.toList.isEmpty = true := by rw [ByteArray.toList_eq, List.isEmpty_iff]; exact hA); rotate_left; (have qe : A.toList.isEmpty = false := by rw [ByteArray.toList_eq, ← Bool.not_eq_true, List.isEmpty_iff]; exact hA); (have k6a := hk6.alloc (.cells #[.string A] 9)); rotate_left; rotate_left)
            | (at_builtin; go_loud (refine wpList_append_rd rfl (.tmp 83) (.tmp 85) 35 rfl (w.heap.size + 2) 9 is (.string ByteArray.empty) 1 16 (by kernel_rfl) his hs0 hs1 hs2 rfl (by decide) (.slice p9 ls.length c9) ls.length (ls.map (fun l => Value.string ⟨l.toArray⟩)) rfl ((own_gr hg6 hown.out).alloc _) _ 1 [.string A] rfl (Rd.new w6 #[.string A] 9 1 1 1 rfl) ?_ ?_ ?_ ?_ ?_; (· intro u hu; simp at hu; subst hu; rfl); (· unfold maxLen; omega); (· omega); (· have h1 := hg6.size; have h3 := hk.1; (try simp); omega); intro lv7 w7 hown7 hgrow7; obtain ⟨a7, c7, rfl⟩ := own_shape hown7; have k7 := k6a.grown (g := w.heap.size + 1) hgrow7 (fun e => by have := hge _ e; omega); obtain ⟨hx7, x1, x2, x3, x4, x5, x6⟩ := k7.three)))
          · have hN : PP = some ((v1, v2, ls.map (fun l => (⟨l.toArray⟩ : ByteArray))), B.data.toList) := by
              have hq := hst6.out
              rw [if_neg (by rintro (h | h); (· cases h); (· omega)), if_pos hA] at hq
              rw [hgd.out, ← hq]
            simp [bodyPost, results, Tryd.results56, go_sem, z1, z2, z3]
            refine ⟨(by repeat (first | with_reducible exact Gr.refl _ | with_reducible assumption | refine Gr.setCell ?_ (by first | omega | (simp; done) | (simp; omega)) _ | refine Gr.alloc ?_ _ | refine Gr.drew ?_ | refine Gr.drewN ?_ _ | refine Gr.trans ?_ (by with_reducible assumption))), ?_⟩
            unfold PcR
            rw [hPP.out, hN]
            refine ⟨_, w.heap.size + 2, rfl, ?_, by omega⟩
            have hne : (Value.slice p9 ls.length c9).ownBlock = none ∨ (Value.slice p9 ls.length c9).ownBlock ≠ some (w.heap.size + 1) := by
              cases ho : (Value.slice p9 ls.length c9).ownBlock with
              | none => exact .inl rfl
              | some k => exact .inr (fun e => by have := hge k ho; injection e with e; omega)
            have ht := (((own_gr hg6 hown.out).kept (grown_setCell _ ⟨w.heap.size + 1, 0, none⟩ (.int .i64 v1)) hne).kept (grown_setCell _ ⟨w.heap.size + 1, 1, none⟩ (.int .i64 v2)) hne).kept (grown_setCell _ ⟨w.heap.size + 1, 2, none⟩ (.slice p9 ls.length c9)) hne
            simpa [Function.comp_def] using ht
          · have hB : Hid (plP (6 - (ls ++ [A.data.toList]).length) (ls ++ [A.data.toList]) B.data.toList = PL) := by
              have hq := hst6.out
              rw [if_neg (by rintro (h | h); (· cases h); (· omega)), if_neg hA] at hq
              refine Lib.hid ?_
              rw [List.length_append, List.length_singleton, show 6 - (ls.length + 1) = 5 - ls.length by omega]
              exact hq
            have hg7 : Gr w w7 := ((hg.trans hg6).alloc _).grown hgrow7 (fun k e => by have := hge k e; omega)
            have hg8 : Gr w (w7.setCell ⟨w.heap.size + 1, 2, none⟩ (.slice a7 (ls.length + 1) c7)) := hg7.setCell (by simp) _
            have k8 := k7.set (k := 2) (by simp) (.slice a7 (ls.length + 1) c7)
            simp only [List.set_cons_zero, List.set_cons_succ] at k8
            have ho8 : (w7.setCell ⟨w.heap.size + 1, 2, none⟩ (.slice a7 (ls.length + 1) c7)).ownsRow (w.heap.size + 2) 9 1 (.slice a7 (ls.length + 1) c7) (ls ++ [A.data.toList]).length ((ls ++ [A.data.toList]).map (fun l => Value.string ⟨l.toArray⟩)) := by
              rw [List.map_append, List.length_append]
              refine hown7.kept (grown_setCell _ _ _) ?_
              cases ho : (Value.slice a7 (ls.length + 1) c7).ownBlock with
              | none => exact .inl rfl
              | some k =>
                refine .inr (fun e => ?_)
                have := own_ge hown7 k ho
                simp at e
                omega
            go_roundw
            case rel => exact ⟨B, ls ++ [A.data.toList], (.slice a7 (ls.length + 1) c7), rfl, by omega, by rw [List.length_append]; show _ + 1 ≤ _; omega, hg8, k8, ho8, hB⟩
            case measure => simp [strLn]; exact hd6 (by first | rfl | trivial) (by decide)
          · have hN : Hid (PP = none) := by
              have hq := hst6.out
              rw [if_pos (.inl (by first | rfl | trivial))] at hq
              refine Lib.hid ?_
              rw [hgd.out, ← hq]
            simp [bodyPost, results, Tryd.results56, go_sem, z1, z2, z3]
            refine ⟨(by repeat (first | with_reducible exact Gr.refl _ | with_reducible assumption | refine Gr.setCell ?_ (by first | omega | (simp; done) | (simp; omega)) _ | refine Gr.alloc ?_ _ | refine Gr.drew ?_ | refine Gr.drewN ?_ _ | refine Gr.trans ?_ (by with_reducible assumption))), ?_⟩
            unfold PcR
            rw [hPP.out, hN.out]
    all_goals
      have hN : Hid (PP = none) := Lib.hid (hbad.out (by simp))
      simp [bodyPost, results, Tryd.results56, go_sem, z1, z2, z3]
      refine ⟨(by repeat (first | with_reducible exact Gr.refl _ | with_reducible assumption | refine Gr.setCell ?_ (by first | omega | (simp; done) | (simp; omega)) _ | refine Gr.alloc ?_ _ | refine Gr.drew ?_ | refine Gr.drewN ?_ _ | refine Gr.trans ?_ (by with_reducible assumption))), ?_⟩
      unfold PcR
      rw [hPP.out, hN.out]
end Go.Proofs.YtckmebfgianeoaaDoor
