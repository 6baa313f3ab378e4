/-
  Walk of the law RationalFormat.
  Conditions: the listed variables of strconv hold what their text lays.
-/
import Derived.Test.YtclfiaemjdflbaaDoorParseB
import Derived.Test.YtclfiaemjdflbaaDoorWalkI
namespace Go.Proofs.YtclfiaemjdflbaaDoor
open Go.RowKit Go.Lib
set_option linter.unusedSimpArgs false
set_option linter.unusedVariables false

set_option maxHeartbeats 2000000 in
theorem lawFor_core (s : ByteArray) (n d RN RD RE : Int) (b : Bool) (w : World) (hT : Tabs w) (hr : (b = true ∧ RN = n ∧ RD = d ∧ RE = 0) ∨ (b = false ∧ RE = 3))
    (HS : ∀ w, Tabs w → Calls Tryd.prog 11 #[.agg #[.int .i64 n, .int .i64 d]] w fun e w' => e = .returned (.string s) ∧ Gr w w')
    (HR : ∀ w, Calls Tryd.prog 12 #[.agg #[.int .i64 n, .int .i64 d]] w fun e w' => e = .returned (.string s) ∧ Gr w w')
    (HP : ∀ w, Tabs w → Calls Tryd.prog 13 #[.string s] w fun e w' => e = .returned (.tuple #[.agg #[.int .i64 RN, .int .i64 RD], .int .i64 RE]) ∧ Gr w w')
    (HV : ∀ w, Calls Tryd.prog 14 #[.agg #[.int .i64 n, .int .i64 d]] w fun e w' => e = .returned (.bool b) ∧ Gr w w') :
    Calls Tryd.prog 5 #[.agg #[.int .i64 n, .int .i64 d]] w fun e w' => e = .returned (.bool true) ∧ Gr w w' := by
  have HS := Lib.hid HS
  have HR := Lib.hid HR
  have HP := Lib.hid HP
  have HV := Lib.hid HV
  have hT := Lib.hid hT
  rcases hr with ⟨rfl, rfl, rfl, rfl⟩ | ⟨rfl, rfl⟩
  all_goals
    go_enter Tryd.func5, Tryd.ntmps5
    go_wp2_with (first
      | (go_at_call 11; with_reducible refine (HS.out _ (Tabs.gr (W := w) ?_ hT.out)).mono ?_; (· exact (by repeat (first | with_reducible exact Gr.refl _ | with_reducible assumption | refine Gr.setCell ?_ (by first | omega | (simp; done) | (simp; omega)) _ | refine Gr.alloc ?_ _ | refine Gr.drew ?_ | refine Gr.drewN ?_ _ | refine Gr.trans ?_ (by with_reducible assumption)))); rintro e w1 ⟨rfl, hg1⟩; obtain ⟨hc1, hf1⟩ := hg1.cells; have hz1 := hg1.size; simp at hz1; have hl1 : w.heap.size < w1.heap.size := (by omega))
      | (go_at_call 12; with_reducible refine (HR.out _).mono ?_; rintro e w2 ⟨rfl, hg2⟩; obtain ⟨hc2, hf2⟩ := hg2.cells; have hz2 := hg2.size; have hl2 : w.heap.size < w2.heap.size := (by omega))
      | (go_at_call 13; with_reducible refine (HP.out _ (Tabs.gr (W := w) ?_ hT.out)).mono ?_; (· exact (by repeat (first | with_reducible exact Gr.refl _ | with_reducible assumption | refine Gr.setCell ?_ (by first | omega | (simp; done) | (simp; omega)) _ | refine Gr.alloc ?_ _ | refine Gr.drew ?_ | refine Gr.drewN ?_ _ | refine Gr.trans ?_ (by with_reducible assumption)))); rintro e w3 ⟨rfl, hg3⟩; obtain ⟨hc3, hf3⟩ := hg3.cells; have hz3 := hg3.size; have hl3 : w.heap.size < w3.heap.size := (by omega))
      | (go_at_call 14; with_reducible refine (HV.out _).mono ?_; rintro e w4 ⟨rfl, hg4⟩; obtain ⟨hc4, hf4⟩ := hg4.cells; have hz4 := hg4.size; (try simp at hz4); have hl4 : w3.heap.size < w4.heap.size := (by omega); have hm4 : w.heap.size < w4.heap.size := (by omega))
      | (go_at_call 7; with_reducible refine (awake_any _).mono ?_; rintro e w5 ⟨rfl, hg5⟩; obtain ⟨hc5, hf5⟩ := hg5.cells; have hz5 := hg5.size; have hl5 : w3.heap.size < w5.heap.size := (by omega); have hm5 : w.heap.size < w5.heap.size := (by omega)))
    go_ret
    exact ⟨ret_bool rfl, (by repeat (first | with_reducible exact Gr.refl _ | with_reducible assumption | refine Gr.setCell ?_ (by first | omega | (simp; done) | (simp; omega)) _ | refine Gr.alloc ?_ _ | refine Gr.drew ?_ | refine Gr.drewN ?_ _ | refine Gr.trans ?_ (by with_reducible assumption)))⟩
theorem lawFor_walk (n d : Int) (w : World) (hT : Tabs w) (hn : I64 n) (hd : I64 d) :
    Calls Tryd.prog 5 #[.agg #[.int .i64 n, .int .i64 d]] w fun e w' => e = .returned (.bool true) ∧ Gr w w' := by
  have hs : (⟨(fmtV n d).toArray⟩ : ByteArray).size ≤ 140737488355328 := by
    have h1 : (fmtV n d).length ≤ 100 := by
      unfold fmtV
      split
      · unfold fmtL
        have a1 := itoa_len hn.1 hn.2
        have a2 := itoa_len hd.1 hd.2
        split <;> simp <;> omega
      · exact Nat.zero_le _
    show (fmtV n d).toArray.size ≤ _
    simp
    omega
  obtain ⟨RN, RD, RE, _, _, P, _, y, z⟩ := parse_both _ hs
  refine lawFor_core _ n d RN RD RE (vB n d) w hT ?_ (fun w hT => format_any n d w hT hn hd) (fun w => rformat_any n d w hn hd) P (fun w => rvalid_any n d w hn hd)
  cases hv : vB n d
  · refine .inr ⟨rfl, (z fun a b h => ?_).2.2⟩
    have h2 := h.2.2.2
    unfold fmtV at h2
    rw [hv] at h2
    exact fmt_ne a b (by simpa using h2.symm)
  · refine .inl ⟨rfl, y n d ⟨hv, hn, hd, ?_⟩⟩
    unfold fmtV
    rw [hv, if_pos rfl]
end Go.Proofs.YtclfiaemjdflbaaDoor
