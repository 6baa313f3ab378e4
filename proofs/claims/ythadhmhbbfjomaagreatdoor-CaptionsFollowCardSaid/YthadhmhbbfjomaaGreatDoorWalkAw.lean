
/-
  Contract of awake of the law's package: the chapter's examples.
  Conditions: the listed variable of strconv holds what its text lays.
-/
import Derived.Test.YthadhmhbbfjomaaGreatDoorWalkFo
import Derived.Test.YthadhmhbbfjomaaGreatDoorWalkWr
namespace Go.Proofs.YthadhmhbbfjomaaGreatDoor
open Go.RowKit Go.Lib
set_option linter.unusedSimpArgs false
set_option linter.unusedVariables false

theorem strs_new (w : World) (ss : List ByteArray) (a : Array Value) (n cap : Nat) (ha : a.toList = ss.map Value.string) (hn : n = ss.length) : StrsR (w.alloc (.cells a 9)) (.slice (some ⟨w.heap.size, 0, none⟩) n cap) ss := by
  subst hn
  have hz : a.size = ss.length * 1 := by rw [← Array.length_toList, ha, List.length_map, Nat.mul_one]
  have := Rd.new w a 9 ss.length 1 cap hz
  rw [ha] at this
  exact this
theorem one_cue (w : World) (f t : Int) (s : ByteArray) (hf : 0 ≤ f ∧ f ≤ 1000) (ht : 0 ≤ t ∧ t ≤ 1000) (hs : s.size ≤ 64) :
    Cues ((w.alloc (.cells #[.string s] 9)).alloc (.cells #[.int .i64 f, .int .i64 t, .slice (some ⟨w.heap.size, 0, none⟩) 1 1] 57)) (.slice (some ⟨w.heap.size + 1, 0, none⟩) 1 1) [⟨f, t, .slice (some ⟨w.heap.size, 0, none⟩) 1 1, [s]⟩] := by
  refine ⟨⟨?_, ?_⟩, ?_, by simp⟩
  · have := Rd.new (w.alloc (.cells #[.string s] 9)) #[.int .i64 f, .int .i64 t, .slice (some ⟨w.heap.size, 0, none⟩) 1 1] 57 1 3 1 rfl
    simp at this
    exact this
  · intro c hc
    rw [List.mem_singleton.1 hc]
    exact (strs_new w [s] #[.string s] 1 1 rfl rfl).gr ((Gr.refl _).alloc _)
  · intro c hc
    rw [List.mem_singleton.1 hc]
    exact ⟨by simp only; omega, by simp only; omega, by simp only; omega, by simp only; omega, by simp, fun x hx => by rw [List.mem_singleton.1 hx]; omega⟩
theorem map_one {cs : List Cu} {x : AC} (h : cs.map cAbs = [x]) : ∃ c, cs = [c] ∧ cAbs c = x := by
  cases cs with
  | nil => cases h
  | cons c cs =>
    cases cs with
    | nil => exact ⟨c, rfl, by simpa using h⟩
    | cons _ _ => simp at h

abbrev sOne : ByteArray := ⟨#[111, 110, 101, 32, 116, 119, 111, 32, 116, 104, 114, 101, 101]⟩
abbrev sAbc : ByteArray := ⟨#[97, 98, 99, 100, 101, 102, 103, 104, 32, 105]⟩
abbrev lOne : List ByteArray := [⟨#[111, 110, 101, 32, 116, 119, 111]⟩, ⟨#[116, 104, 114, 101, 101]⟩]
abbrev lAbc : List ByteArray := [⟨#[97, 98, 99]⟩, ⟨#[100, 101, 102]⟩, ⟨#[103, 104]⟩, ⟨#[105]⟩]
abbrev tHi : ByteArray := ⟨#[49, 10, 48, 48, 58, 48, 48, 58, 48, 49, 44, 48, 48, 48, 32, 45, 45, 62, 32, 48, 48, 58, 48, 48, 58, 48, 50, 44, 48, 48, 48, 10, 72, 105, 10, 10]⟩
theorem wrapOne : wrapP 7 sOne = lOne := by decide +kernel
theorem wrapAbc : wrapP 3 sAbc = lAbc := by decide +kernel
theorem fmtHi (lv : Value) : fmtSS 25 1 [⟨25, 50, lv, [⟨#[72, 105]⟩]⟩] = tHi.data.toList ∧ fmtEE 25 1 [⟨25, 50, lv, [⟨#[72, 105]⟩]⟩] = 0 ∧ vCues [⟨25, 50, lv, [⟨#[72, 105]⟩]⟩] = true ∧ suB 25 1 = true := by
  refine ⟨?_, ?_, ?_, ?_⟩
  · show fmtSS 25 1 [⟨25, 50, lv, [⟨#[72, 105]⟩]⟩] = [49, 10, 48, 48, 58, 48, 48, 58, 48, 49, 44, 48, 48, 48, 32, 45, 45, 62, 32, 48, 48, 58, 48, 48, 58, 48, 50, 44, 48, 48, 48, 10, 72, 105, 10, 10]
    kernel_rfl
  · kernel_rfl
  · kernel_rfl
  · kernel_rfl

set_option maxRecDepth 20000 in
set_option maxHeartbeats 1500000 in
theorem awake_any (w : World) (hT : Pow w) : Calls Tryz.prog 10 #[] w fun e w' => e = .returned (.bool true) ∧ Gr w w' := by
  have HC : Hid (Calls Tryz.prog 16 #[.slice (some ⟨w.heap.size + 1, 0, none⟩) 1 1, .int .i64 5, .int .i64 8] ((w.alloc (.cells #[.string ⟨#[120]⟩] 9)).alloc (.cells #[.int .i64 3, .int .i64 9, .slice (some ⟨w.heap.size, 0, none⟩) 1 1] 57)) fun e w' => ∃ b o cap, e = .returned (.tuple #[.slice (some ⟨b, o, none⟩) 1 cap, .int .i64 0]) ∧ Gr w w' ∧ b < w'.heap.size ∧ w'.cell? ⟨b, o, none⟩ = some (.int .i64 0) ∧ w'.cell? ⟨b, o + 1, none⟩ = some (.int .i64 3)) := by
    refine (cut_yes _ _ 5 8 _ (one_cue w 3 9 ⟨#[120]⟩ (by decide) (by decide) (by decide)) ⟨by kernel_rfl, by decide, by decide, by decide⟩).mono ?_
    rintro e w' ⟨v', cs', rfl, hg, hC, hm⟩
    obtain ⟨c, rfl, hc⟩ := map_one (x := (0, 3, [⟨#[120]⟩])) hm
    obtain ⟨a, cap, rfl, h | ⟨b, o, rfl, hb, hcell⟩⟩ := hC.at_.shape
    · cases h
    · have h0 := hcell 0 (by simp)
      unfold cAbs at hc
      injection hc with hc1 hc2
      injection hc2 with hc2 hc3
      refine ⟨b, o, cap, rfl, (((Gr.refl w).alloc _).alloc _).trans hg, hb, ?_, ?_⟩
      · have := h0.1
        simp only [List.getElem_cons_zero, hc1] at this
        simpa using this
      · have := h0.2.1
        simp only [List.getElem_cons_zero, hc2] at this
        simpa using this
  have HF : Hid (∀ w1, Gr w w1 → Calls Tryz.prog 21 #[.slice (some ⟨w1.heap.size + 1, 0, none⟩) 1 1, .agg #[.int .i64 25, .int .i64 1]] ((w1.alloc (.cells #[.string ⟨#[72, 105]⟩] 9)).alloc (.cells #[.int .i64 25, .int .i64 50, .slice (some ⟨w1.heap.size, 0, none⟩) 1 1] 57)) fun e w' => e = .returned (.tuple #[.string tHi, .int .i64 0]) ∧ Gr w1 w') := fun w1 hg => by
    obtain ⟨f1, f2, f3, f4⟩ := fmtHi (.slice (some ⟨w1.heap.size, 0, none⟩) 1 1)
    have := format_main _ _ 25 1 _ (one_cue w1 25 50 ⟨#[72, 105]⟩ (by decide) (by decide) (by decide)) ⟨by decide, by decide⟩ ⟨by decide, by decide⟩ (Pow.gr ((hg.alloc _).alloc _) hT) f3 f4 (by simp)
    rw [f1, f2] at this
    refine this.mono ?_
    rintro e w' ⟨rfl, hg2⟩
    exact ⟨rfl, (((Gr.refl w1).alloc _).alloc _).trans hg2⟩
  have HW1 : Hid (∀ w, Calls Tryz.prog 22 #[.string sAbc, .int .i64 3] w fun e w' => ∃ v, e = .returned v ∧ Gr w w' ∧ StrsR w' v lAbc) := fun w => by rw [← wrapAbc]; exact wrap_any sAbc 3 w (by decide) (by decide)
  have HW2 : Hid (∀ w, Calls Tryz.prog 22 #[.string sOne, .int .i64 7] w fun e w' => ∃ v, e = .returned v ∧ Gr w w' ∧ StrsR w' v lOne) := fun w => by rw [← wrapOne]; exact wrap_any sOne 7 w (by decide) (by decide)
  have HS : Hid (∀ va vb as_ w, StrsR w va as_ → StrsR w vb as_ → as_.length ≤ 10 → Calls Tryz.prog 7 #[va, vb] w fun e w' => e = .returned (.bool true) ∧ Gr w w') := fun va vb as_ w h1 h2 h3 => by
    have := strings_any va vb as_ as_ w h1 h2 (by omega) (by omega)
    rw [decide_eq_true rfl] at this
    exact this
  go_enter Tryz.func10, Tryz.ntmps10
  go_wp2_with (first
    | (go_at_call 16; (with_reducible refine HC.out.mono ?_); rintro e w1 ⟨b, o, cap, rfl, hg1, hb1, n0, n1⟩)
    | (go_at_call 21; (with_reducible refine (HF.out w1 hg1).mono ?_); rintro e w2 ⟨rfl, hg2⟩)
    | (go_at_call 22; (with_reducible refine (HW1.out w2).mono ?_); rintro e w3 ⟨v3, rfl, hg3, hs3⟩; have m0 := (hg2.trans hg3).cells.1 b o hb1; have m1 := (hg2.trans hg3).cells.1 b (o + 1) hb1; rw [n0] at m0; rw [n1] at m1)
    | (go_at_call 22; (with_reducible refine (HW2.out w3).mono ?_); rintro e w4 ⟨v4, rfl, hg4, hs4⟩)
    | (go_at_call 7; (with_reducible refine (HS.out v4 (.slice (some ⟨w4.heap.size, 0, none⟩) 2 2) lOne (w4.alloc (.cells #[.string ⟨#[111, 110, 101, 32, 116, 119, 111]⟩, .string ⟨#[116, 104, 114, 101, 101]⟩] 9)) ?_ ?_ ?_).mono ?_); (· exact hs4.gr ((Gr.refl w4).alloc _)); (· exact strs_new w4 lOne _ 2 2 rfl rfl); (· decide); rintro e w5 ⟨rfl, hg5⟩)
    | (go_at_call 7; (with_reducible refine (HS.out v3 (.slice (some ⟨w5.heap.size, 0, none⟩) 4 4) lAbc (w5.alloc (.cells #[.string ⟨#[97, 98, 99]⟩, .string ⟨#[100, 101, 102]⟩, .string ⟨#[103, 104]⟩, .string ⟨#[105]⟩] 9)) ?_ ?_ ?_).mono ?_); (· exact hs3.gr (((hg4.trans ((Gr.refl w4).alloc _)).trans hg5).alloc _)); (· exact strs_new w5 lAbc _ 4 4 rfl rfl); (· decide); rintro e w6 ⟨rfl, hg6⟩))
  go_ret
  exact ⟨rfl, ((((hg1.trans hg2).trans hg3).trans hg4).trans (((Gr.refl w4).alloc _).trans hg5)).trans (((Gr.refl w5).alloc _).trans hg6)⟩
end Go.Proofs.YthadhmhbbfjomaaGreatDoor
