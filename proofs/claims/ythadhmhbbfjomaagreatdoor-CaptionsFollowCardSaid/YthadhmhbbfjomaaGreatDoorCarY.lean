/-
  Contracts of (*carrier).add, of validRun, and of Carry's deferred closure, of package captions.
  Conditions: the carrier and the caption's lines lie in memory; the caption begins at or behind all ends.
-/
import Derived.Test.YthadhmhbbfjomaaGreatDoorCarX
namespace Go.Proofs.YthadhmhbbfjomaaGreatDoor
open Go.RowKit Go.Lib
set_option linter.unusedSimpArgs false
set_option linter.unusedVariables false

theorem caradd_any {C b base : Nat} {v : Value} {c : List Cu} {gs : List Nat} {D : DataW Value} {T : Int} {x : Cu} (w0 w : World) (hP : Pow w0) (hg0w : Gr w0 w) (hb0w : w0.heap.size ≤ b) (h : CarS w C b base v c gs D T) (hs : StrsR w x.lv x.ss) (hl : LnT w x.lv) (hf : FitS x.lv) (hv : Vs x.ss)
    (hT : T ≤ x.f) (hft : x.f < x.t) (ht : x.t < 1000) :
    Calls Tryz.prog 17 #[.pointer (some ⟨C, 0, none⟩), x.val] w fun e w' => e = .returned (.tuple #[]) ∧ ∃ v' c' gs' D', CarS w' C b base v' c' gs' D' x.t ∧ c'.map cAbs = addA (cAbs x) (c.map cAbs) ∧ Ex (Own C b v gs) w w' ∧ ∀ k, k < w.heap.size → Own C b v' gs' k → Own C b v gs k := by
  by_cases hm : ∃ (i : Nat) (y : Cu), c[i]? = some y ∧ y.t = x.f ∧ y.ss = x.ss
  · obtain ⟨i, y, hi, hyt, hys⟩ := hm
    refine (add_old w0 w hP hg0w hb0w h hs hf hv hT hft ht hi hyt hys).mono fun e w' ⟨he, gs', D', h1, h2, h3⟩ => ⟨he, v, _, gs', D', h1, ?_, h2, h3⟩
    rw [addA_set (x := cAbs x) (y := cAbs y) (i := i) (by rw [List.getElem?_map, hi]; rfl) h.ed hyt hys, List.map_set]
    rfl
  · refine (add_new w0 w hP hg0w hb0w h hs hl hf hv hT hft ht (fun y hy q => ?_)).mono fun e w' ⟨he, v', gs', D', h1, h2, h3⟩ => ⟨he, v', _, gs', D', h1, ?_, h2, h3⟩
    · obtain ⟨i, hi, rfl⟩ := List.getElem_of_mem hy
      exact hm ⟨i, _, List.getElem?_eq_getElem hi, q.1, q.2⟩
    · rw [addA_new, List.map_append]
      · rfl
      · intro z hz q
        obtain ⟨u, hu, rfl⟩ := List.mem_map.1 hz
        obtain ⟨i, hi, rfl⟩ := List.getElem_of_mem hu
        exact hm ⟨i, _, List.getElem?_eq_getElem hi, q.1, q.2⟩
theorem carryD_idle (p q : Addr) (w : World) :
    CallsD Tryz.prog 13 #[.pointer (some p), .pointer (some q)] .returning w fun e u' w' => e = .returned (.tuple #[]) ∧ u' = .returning ∧ w' = w := by
  refine callsD_of_wpS Tryz.func13 rfl fun c₀ cs hu => ?_
  apply wpS_seq
  apply wpS_region
  simp [wpOpsS, go_sem, recoverD, hu, Tryz.ntmps13, Exit.thenS]
  refine wpS_cond (t := false) (by simp [Act.eval, Array.replicate]) ?_
  simp only [Bool.false_eq_true, if_false]
  refine wpS_of_wp (wp_skip ?_)
  cases c₀
  simp_all [bodyPostS, results, Tryz.results13]
set_option maxRecDepth 20000 in
set_option maxHeartbeats 4000000 in
theorem validrun_yes (nm : ByteArray) (a f n : Int) (w : World) (h1 : 0 ≤ a ∧ 0 ≤ f ∧ 1 ≤ n ∧ a + n ≤ 2147483647 ∧ f + n ≤ 2147483647) :
    Calls Tryz.prog 15 #[.agg #[.string nm, .int .i64 a, .int .i64 f, .int .i64 n]] w fun e w' => e = .returned (.bool true) ∧ Gr w w' := by
  have q1 : decide (1 ≤ n) = true := decide_eq_true (by omega)
  have q2 : decide (n ≤ 2147483647) = true := decide_eq_true (by omega)
  have q3 : decide (0 ≤ a) = true := decide_eq_true (by omega)
  have q4 : decide (a ≤ 2147483647 - n) = true := decide_eq_true (by omega)
  have q5 : decide (0 ≤ f) = true := decide_eq_true (by omega)
  have q6 : decide (f ≤ 2147483647 - n) = true := decide_eq_true (by omega)
  go_enter Tryz.func15, Tryz.ntmps15
  go_wp2
  all_goals first | (go_ret; exact ⟨rfl, (by repeat (first | with_reducible exact Gr.refl _ | with_reducible assumption | refine Gr.setCell ?_ (by first | omega | (simp; done) | (simp; omega)) _ | refine Gr.alloc ?_ _ | refine Gr.drew ?_ | refine Gr.drewN ?_ _ | refine Gr.trans ?_ (by with_reducible assumption)))⟩) | skip
end Go.Proofs.YthadhmhbbfjomaaGreatDoor
