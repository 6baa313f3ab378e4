/-
  Contracts of Format of package rational and of the reference.
  Conditions: the listed variables of strconv hold what their text lays.
-/
import Derived.Test.YtclfiaemjdflbaaDoorWalkG
import Derived.Test.YtclfiaemjdflbaaDoorShelf
import Derived.Test.YtclfiaemjdflbaaDoorMathP
import Derived.Test.YtclfiaemjdflbaaDoorCel
import Derived.OwnWalk
import Derived.Laws.IdiomStrings
import Derived.Lib.LaidTab
import Derived.Laws.Concat
namespace Go.Proofs.YtclfiaemjdflbaaDoor
open Go.RowKit Go.Lib
set_option linter.unusedSimpArgs false
set_option linter.unusedVariables false

/-- what the variables of strconv hold -/
def Tabs (w : World) : Prop := Lib.TabIs Tryd.prog w "internal/strconv.uint64pow10" .u64 Lib.pow10Tab ∧ (∃ tp p, w.var? Tryd.prog "strconv.ErrSyntax" = some #[.iface tp p]) ∧ (∃ tp p, w.var? Tryd.prog "strconv.ErrRange" = some #[.iface tp p])
theorem var_gr {W w : World} (hg : Gr W w) {n : String} {cs : Array Value} (h : W.var? Tryd.prog n = some cs) : w.var? Tryd.prog n = some cs := by
  unfold World.var? at *
  cases hn : Tryd.prog.globalNamed n with
  | none => rw [hn] at h; cases h
  | some g =>
    rw [hn] at h
    simp only [Option.bind_some] at h ⊢
    split at h
    · rename_i c t fr hb
      rw [Below.block hg g (lt_of_block hb), hb]
      exact h
    · cases h
theorem Tabs.gr {W w : World} (hg : Gr W w) (h : Tabs W) : Tabs w := by
  obtain ⟨h1, ⟨t2, p2, h2⟩, ⟨t3, p3, h3⟩⟩ := h
  exact ⟨var_gr hg h1, ⟨t2, p2, var_gr hg h2⟩, t3, p3, var_gr hg h3⟩
theorem gr_grow {w : World} (os : Array Obj) : Gr w (Go.Sort.grow w os) :=
  ⟨rfl, rfl, rfl, by show w.heap.size ≤ (w.heap ++ os).size; simp, fun b hb => by show (w.heap ++ os)[b]? = w.heap[b]?; rw [Array.getElem?_append_left hb]⟩
theorem fint_any (n : Int) (w : World) (hT : Tabs w) (h0 : -9223372036854775808 ≤ n) (h1 : n ≤ 9223372036854775807) :
    Calls Tryd.prog 26 #[.int .i64 n, .int .i64 10] w fun e w' => e = .returned (.string ⟨(Lib.itoa n).toArray⟩) ∧ Gr w w' :=
  (Tryd.strconv_FormatInt_10 n h0 h1 w hT.1).mono fun e w' ⟨he, k, os, hw⟩ => ⟨he, by rw [hw]; exact ((Gr.refl w).drewN k).trans (gr_grow os)⟩

/-- the text of a fraction, or nothing -/
def fmtV (n d : Int) : List UInt8 := if vB n d then fmtL n d else []
set_option maxHeartbeats 1000000 in
theorem format_no (n d : Int) (w : World) (HV : ∀ w, Calls Tryd.prog 17 #[.agg #[.int .i64 n, .int .i64 d]] w fun e w' => e = .returned (.bool false) ∧ Gr w w') :
    Calls Tryd.prog 11 #[.agg #[.int .i64 n, .int .i64 d]] w fun e w' => e = .returned (.string ⟨#[]⟩) ∧ Gr w w' := by
  have HV := Lib.hid HV
  go_enter Tryd.func11, Tryd.ntmps11
  go_wp2_with (go_at_call 17; with_reducible refine (HV.out _).mono ?_; rintro e w1 ⟨rfl, hg1⟩; obtain ⟨hc1, hf1⟩ := hg1.cells; have hz1 := hg1.size; (try simp at hz1); (try have hl1_0_0 : w.heap.size < w1.heap.size := by omega); (try have hm1_0_0 : w.heap.size ≤ w1.heap.size := by omega); (try have hl1_0_1 : w.heap.size + 1 < w1.heap.size := by omega); (try have hl1_0_2 : w.heap.size + 2 < w1.heap.size := by omega))
  go_ret
  exact ⟨rfl, (by repeat (first | with_reducible exact Gr.refl _ | with_reducible assumption | refine Gr.setCell ?_ (by first | omega | (simp; done) | (simp; omega)) _ | refine Gr.alloc ?_ _ | refine Gr.drew ?_ | refine Gr.drewN ?_ _ | refine Gr.trans ?_ (by with_reducible assumption)))⟩
set_option maxHeartbeats 2000000 in
theorem format_core (n d : Int) (s t : List UInt8) (w : World) (hT : Tabs w) (hs : s.length ≤ 30) (ht : t.length ≤ 30)
    (HV : ∀ w, Calls Tryd.prog 17 #[.agg #[.int .i64 n, .int .i64 d]] w fun e w' => e = .returned (.bool true) ∧ Gr w w')
    (HN : ∀ w, Tabs w → Calls Tryd.prog 26 #[.int .i64 n, .int .i64 10] w fun e w' => e = .returned (.string ⟨s.toArray⟩) ∧ Gr w w')
    (HD : ∀ w, Tabs w → Calls Tryd.prog 26 #[.int .i64 d, .int .i64 10] w fun e w' => e = .returned (.string ⟨t.toArray⟩) ∧ Gr w w') :
    Calls Tryd.prog 11 #[.agg #[.int .i64 n, .int .i64 d]] w fun e w' => e = .returned (.string ⟨(s ++ if d = 1 then [] else 47 :: t).toArray⟩) ∧ Gr w w' := by
  have HV := Lib.hid HV
  have HN := Lib.hid HN
  have HD := Lib.hid HD
  have hT := Lib.hid hT
  by_cases h : d = 1
  · subst h
    rw [if_pos rfl, List.append_nil]
    go_enter Tryd.func11, Tryd.ntmps11
    go_wp2_with (first
      | (go_at_call 17; with_reducible refine (HV.out _).mono ?_; rintro e w1 ⟨rfl, hg1⟩; obtain ⟨hc1, hf1⟩ := hg1.cells; have hz1 := hg1.size; (try simp at hz1); (try have hl1_0_0 : w.heap.size < w1.heap.size := by omega); (try have hm1_0_0 : w.heap.size ≤ w1.heap.size := by omega); (try have hl1_0_1 : w.heap.size + 1 < w1.heap.size := by omega); (try have hl1_0_2 : w.heap.size + 2 < w1.heap.size := by omega))
      | (go_at_call 26; (with_reducible refine (HN.out _ (Tabs.gr (W := w) ?_ hT.out)).mono ?_); (· exact (by repeat (first | with_reducible exact Gr.refl _ | with_reducible assumption | refine Gr.setCell ?_ (by first | omega | (simp; done) | (simp; omega)) _ | refine Gr.alloc ?_ _ | refine Gr.drew ?_ | refine Gr.drewN ?_ _ | refine Gr.trans ?_ (by with_reducible assumption)))); rintro e w2 ⟨rfl, hg2⟩; obtain ⟨hc2, hf2⟩ := hg2.cells; have hz2 := hg2.size; (try simp at hz2); have hl2 : w.heap.size < w2.heap.size := (by omega)))
    go_ret
    exact ⟨rfl, (by repeat (first | with_reducible exact Gr.refl _ | with_reducible assumption | refine Gr.setCell ?_ (by first | omega | (simp; done) | (simp; omega)) _ | refine Gr.alloc ?_ _ | refine Gr.drew ?_ | refine Gr.drewN ?_ _ | refine Gr.trans ?_ (by with_reducible assumption)))⟩
  · have q : (d != 1) = true := by simpa using h
    rw [if_neg h]
    clear h
    have k1 : ∀ w, (Op.stringOp .add ⟨#[47]⟩ ⟨t.toArray⟩).run Tryd.prog w = .ok (.string ⟨(47 :: t).toArray⟩) w := fun w => run_string_add_lists w [47] t (by simp) (by omega)
    have k2 : ∀ w, (Op.stringOp .add ⟨s.toArray⟩ ⟨(47 :: t).toArray⟩).run Tryd.prog w = .ok (.string ⟨(s ++ 47 :: t).toArray⟩) w := fun w => run_string_add_lists w s (47 :: t) (by omega) (by simp; omega)
    go_enter Tryd.func11, Tryd.ntmps11
    go_wp2_with (first
      | (go_at_call 17; with_reducible refine (HV.out _).mono ?_; rintro e w1 ⟨rfl, hg1⟩; obtain ⟨hc1, hf1⟩ := hg1.cells; have hz1 := hg1.size; (try simp at hz1); (try have hl1_0_0 : w.heap.size < w1.heap.size := by omega); (try have hm1_0_0 : w.heap.size ≤ w1.heap.size := by omega); (try have hl1_0_1 : w.heap.size + 1 < w1.heap.size := by omega); (try have hl1_0_2 : w.heap.size + 2 < w1.heap.size := by omega))
      | (go_at_call 26; (with_reducible refine (HN.out _ (Tabs.gr (W := w) ?_ hT.out)).mono ?_); (· exact (by repeat (first | with_reducible exact Gr.refl _ | with_reducible assumption | refine Gr.setCell ?_ (by first | omega | (simp; done) | (simp; omega)) _ | refine Gr.alloc ?_ _ | refine Gr.drew ?_ | refine Gr.drewN ?_ _ | refine Gr.trans ?_ (by with_reducible assumption)))); rintro e w2 ⟨rfl, hg2⟩; obtain ⟨hc2, hf2⟩ := hg2.cells; have hz2 := hg2.size; (try simp at hz2); have hl2 : w.heap.size < w2.heap.size := (by omega))
      | (go_at_call 26; (with_reducible refine (HD.out _ (Tabs.gr (W := w) ?_ hT.out)).mono ?_); (· exact (by repeat (first | with_reducible exact Gr.refl _ | with_reducible assumption | refine Gr.setCell ?_ (by first | omega | (simp; done) | (simp; omega)) _ | refine Gr.alloc ?_ _ | refine Gr.drew ?_ | refine Gr.drewN ?_ _ | refine Gr.trans ?_ (by with_reducible assumption)))); rintro e w3 ⟨rfl, hg3⟩; obtain ⟨hc3, hf3⟩ := hg3.cells; have hz3 := hg3.size; (try simp at hz3); have hl3 : w.heap.size < w3.heap.size := (by omega)))
    go_ret
    exact ⟨rfl, (by repeat (first | with_reducible exact Gr.refl _ | with_reducible assumption | refine Gr.setCell ?_ (by first | omega | (simp; done) | (simp; omega)) _ | refine Gr.alloc ?_ _ | refine Gr.drew ?_ | refine Gr.drewN ?_ _ | refine Gr.trans ?_ (by with_reducible assumption)))⟩
end Go.Proofs.YtclfiaemjdflbaaDoor
