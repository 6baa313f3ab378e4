
import Derived.Test.YthadhmhbbfjomaaGreatDoorWalkVa
import Derived.Test.YthadhmhbbfjomaaGreatDoorMem
import Derived.WalkSpells
import Derived.Defers
import Derived.Recover
/-
  Contract of Cut of the reference.
  Conditions: the list lies in memory and is of a size that memory has.
-/
namespace Go.Proofs.YthadhmhbbfjomaaGreatDoor
open Go.RowKit Go.Lib
set_option linter.unusedSimpArgs false
set_option linter.unusedVariables false

theorem infoStr : (Tryz.prog.info? 9).map (fun i => (i.zero, i.size, i.bytes)) = some (some (.string ByteArray.empty), 1, 16) := by kernel_rfl
theorem infoCue : (Tryz.prog.info? 57).map (fun i => (i.zero, i.size, i.bytes)) = some (some (.agg #[.int .i64 0, .int .i64 0, .slice none 0 0]), 3, 40) := by kernel_rfl

end Go.Proofs.YthadhmhbbfjomaaGreatDoor

/-
  Contract of slices.Clone of a list of strings.
  Conditions: the list lies in memory and is of a size that memory has.
-/
namespace Go.Proofs.YthadhmhbbfjomaaGreatDoor
open Go.RowKit Go.Lib
set_option linter.unusedSimpArgs false
set_option linter.unusedVariables false

theorem clone_any (v : Value) (ss : List ByteArray) (w : World) (hS : StrsR w v ss) (hn : ss.length * 16 ≤ 140737488355328) :
    Calls Tryz.prog 20 #[v] w fun e w' => ∃ v', e = .returned v' ∧ Gr w w' ∧ StrsR w' v' ss ∧ (∀ base e', 9 ≠ e' → Far base e' w' v') ∧ ∀ k, v'.ownBlock = some k → w.heap.size ≤ k := by
  have hR : Rd w v ss.length 1 (ss.map Value.string) := hS
  obtain ⟨_, a, cap, rfl, h0⟩ := hS
  have h0 := Lib.hid h0
  obtain ⟨is, his, hs0, hs1, hs2⟩ := info_parts infoStr
  cases a with
  | none =>
    rcases h0.out with ⟨hz, h0'⟩ | ⟨b, o, h, _⟩
    · have hss : ss = [] := List.eq_nil_of_length_eq_zero hz
      obtain rfl : cap = 0 := h0' rfl
      subst hss
      clear h0 h0' hR hn hz
      show Calls Tryz.prog 20 #[.slice none 0 0] w _
      have hnil : ∀ w, (binOp .eql 44 (.slice none 0 0) (.slice none 0 0)).run Tryz.prog w = .ok (.bool true) w := fun w => Lib.run_eql_slice_nil w _ 9 none _ _ _ _ (by kernel_rfl)
      go_enter Tryz.func20, Tryz.ntmps20
      go_wp2
      go_ret
      exact ⟨_, rfl, (by repeat (first | with_reducible exact Gr.refl _ | with_reducible assumption | refine Gr.setCell ?_ (by first | omega | (simp; done) | (simp; omega)) _ | refine Gr.alloc ?_ _ | refine Gr.drew ?_ | refine Gr.drewN ?_ _ | refine Gr.trans ?_ (by with_reducible assumption))), StrsR.nil _, fun base e' _ k hk => by simp [Value.ownBlock] at hk, fun k hk => by simp [Value.ownBlock] at hk⟩
    · cases h
  | some ad =>
    have hnil : ∀ w, (binOp .eql 44 (.slice (some ad) ss.length cap) (.slice none 0 0)).run Tryz.prog w = .ok (.bool false) w := fun w => Lib.run_eql_slice_nil w _ 9 (some ad) _ _ _ _ (by kernel_rfl)
    go_enter Tryz.func20, Tryz.ntmps20
    go_wp2_with (at_builtin; refine wpList_append_rd rfl (.tmp 5) (.tmp 6) 44 rfl w.heap.size 9 is (.string ByteArray.empty) 1 16 (by kernel_rfl) his hs0 hs1 hs2 rfl (by decide) _ _ _ rfl (own_empty w w.heap.size 9 1 (Nat.le_refl _)) _ ss.length (ss.map Value.string) rfl (hR.gr ((Gr.refl w).alloc _)) (strs_oneCell _) ?_ ?_ ?_ ?_; (· unfold maxLen; omega); (· omega); (· simp); intro lv w2 hown2 hgrow2; have hg2 : Gr w w2 := ((Gr.refl w).alloc _).grown hgrow2 (fun k hk => by cases hk; exact Nat.le_refl _); simp only [Nat.zero_add, List.nil_append] at hown2; obtain ⟨p3, cap3, rfl⟩ := own_shape hown2)
    go_ret
    exact ⟨_, rfl, hg2, Rd.own hown2, fun base e' h => Far.row hown2 h, own_ge hown2⟩
end Go.Proofs.YthadhmhbbfjomaaGreatDoor

/-
  Contracts of the deferred closures of package captions, called while nothing panics.
  Conditions: none.
-/
namespace Go.Proofs.YthadhmhbbfjomaaGreatDoor
open Go.RowKit Go.Lib
set_option linter.unusedSimpArgs false
set_option linter.unusedVariables false

theorem cutD_idle (p q : Addr) (w : World) :
    CallsD Tryz.prog 32 #[.pointer (some p), .pointer (some q)] .returning w fun e u' w' => e = .returned (.tuple #[]) ∧ u' = .returning ∧ w' = w := by
  refine callsD_of_wpS Tryz.func32 rfl fun c₀ cs hu => ?_
  apply wpS_seq
  apply wpS_region
  simp [wpOpsS, go_sem, recoverD, hu, Tryz.ntmps32, Exit.thenS]
  refine wpS_cond (t := false) (by simp [Act.eval, Array.replicate]) ?_
  simp only [Bool.false_eq_true, if_false]
  refine wpS_of_wp (wp_skip ?_)
  cases c₀
  simp_all [bodyPostS, results, Tryz.results32]
theorem atD_idle (p q : Addr) (w : World) :
    CallsD Tryz.prog 18 #[.pointer (some p), .pointer (some q)] .returning w fun e u' w' => e = .returned (.tuple #[]) ∧ u' = .returning ∧ w' = w := by
  refine callsD_of_wpS Tryz.func18 rfl fun c₀ cs hu => ?_
  apply wpS_seq
  apply wpS_region
  simp [wpOpsS, go_sem, recoverD, hu, Tryz.ntmps18, Exit.thenS]
  refine wpS_cond (t := false) (by simp [Act.eval, Array.replicate]) ?_
  simp only [Bool.false_eq_true, if_false]
  refine wpS_of_wp (wp_skip ?_)
  cases c₀
  simp_all [bodyPostS, results, Tryz.results18]
theorem formatD_idle (p q : Addr) (w : World) :
    CallsD Tryz.prog 37 #[.pointer (some p), .pointer (some q)] .returning w fun e u' w' => e = .returned (.tuple #[]) ∧ u' = .returning ∧ w' = w := by
  refine callsD_of_wpS Tryz.func37 rfl fun c₀ cs hu => ?_
  apply wpS_seq
  apply wpS_region
  simp [wpOpsS, go_sem, recoverD, hu, Tryz.ntmps37, Exit.thenS]
  refine wpS_cond (t := false) (by simp [Act.eval, Array.replicate]) ?_
  simp only [Bool.false_eq_true, if_false]
  refine wpS_of_wp (wp_skip ?_)
  cases c₀
  simp_all [bodyPostS, results, Tryz.results37]
theorem wrapD_idle (p : Addr) (w : World) :
    CallsD Tryz.prog 43 #[.pointer (some p)] .returning w fun e u' w' => e = .returned (.tuple #[]) ∧ u' = .returning ∧ w' = w := by
  refine callsD_of_wpS Tryz.func43 rfl fun c₀ cs hu => ?_
  apply wpS_seq
  apply wpS_region
  simp [wpOpsS, go_sem, recoverD, hu, Tryz.ntmps43, Exit.thenS]
  refine wpS_cond (t := false) (by simp [Act.eval, Array.replicate]) ?_
  simp only [Bool.false_eq_true, if_false]
  refine wpS_of_wp (wp_skip ?_)
  cases c₀
  simp_all [bodyPostS, results, Tryz.results43]
theorem hmf_any (P : Program) : ∀ (fn : Fn) (first cap : Array Value) (w : World), (Instr.makeFunc fn first cap).run P w = .ok (.func fn first cap) w := fun _ _ _ _ => rfl
end Go.Proofs.YthadhmhbbfjomaaGreatDoor

/-
  Contract of Cut of package captions.
  Conditions: the list lies in memory and is of a size that memory has.
-/
namespace Go.Proofs.YthadhmhbbfjomaaGreatDoor
open Go.RowKit Go.Lib
set_option linter.unusedSimpArgs false
set_option linter.unusedVariables false

set_option maxRecDepth 20000 in
set_option maxHeartbeats 4000000 in
theorem cut_no (v : Value) (cs : List Cu) (a b : Int) (w : World) (hC : Cues w v cs) (h : ¬ cutGood cs a b) :
    Calls Tryz.prog 16 #[v, .int .i64 a, .int .i64 b] w fun e w' => e = .returned (.tuple #[.slice none 0 0, .int .i64 1]) ∧ Gr w w' := by
  obtain ⟨p, cap, rfl, hsh⟩ := hC.at_.shape
  clear hsh
  have hmf := hmf_any Tryz.prog
  have hL : Hid (∃ bv : Bool, (∀ w', Gr w w' → Calls Tryz.prog 19 #[.slice p cs.length cap] w' fun e w'' => e = .returned (.bool bv) ∧ Gr w' w'') ∧ (bv = false ∨ (bv = true ∧ (a < 0 ∨ (0 ≤ a ∧ b < a) ∨ (0 ≤ a ∧ a ≤ b ∧ 2147483647 < b))))) := by
    refine ⟨vCues cs, fun w' hg => cvalid_any _ _ w' (hC.gr hg), ?_⟩
    cases hv : vCues cs with
    | false => exact .inl rfl
    | true =>
      refine .inr ⟨rfl, ?_⟩
      unfold cutGood at h
      rcases Int.lt_or_le a 0 with h1 | h1
      · exact .inl h1
      rcases Int.lt_or_le b a with h2 | h2
      · exact .inr (.inl ⟨h1, h2⟩)
      rcases Int.lt_or_le 2147483647 b with h3 | h3
      · exact .inr (.inr ⟨h1, h2, h3⟩)
      · exact absurd ⟨hv, h1, h2, h3⟩ h
  clear hC h
  obtain ⟨bv, HV, h⟩ := hL.out
  have HV := Lib.hid HV
  clear hL
  have fin : ∀ w1 : World, Gr ((w.alloc (.cells #[.slice none 0 0] 24)).alloc (.cells #[.int .i64 0] 41)) w1 → w1.cell? ⟨w.heap.size, 0, none⟩ = some (.slice none 0 0) ∧ w1.cell? ⟨w.heap.size + 1, 0, none⟩ = some (.int .i64 0) ∧ w1.frozen? ⟨w.heap.size, 0, none⟩ = false ∧ w1.frozen? ⟨w.heap.size + 1, 0, none⟩ = false := by
    intro w1 hg1
    have k1 := (Cel.new w #[.slice none 0 0] 24).alloc (.cells #[.int .i64 0] 41) |>.gr hg1
    have k2 := (Cel.new (w.alloc (.cells #[.slice none 0 0] 24)) #[.int .i64 0] 41).gr hg1
    simp at k1 k2
    exact ⟨k1.one.1, k2.one.1, k1.one.2, k2.one.2⟩
  have fin := Lib.hid fin
  rcases h with rfl | ⟨rfl, h | ⟨h1, h⟩ | ⟨h1, h2, h⟩⟩
  · have q1 := 1
    go_enter_defers Tryz.func16, Tryz.ntmps16
    go_wp2_with (go_at_call 19; (with_reducible refine (HV.out _ ?_).mono ?_); (· exact (by repeat (first | with_reducible exact Gr.refl _ | with_reducible assumption | refine Gr.setCell ?_ (by first | omega | (simp; done) | (simp; omega)) _ | refine Gr.alloc ?_ _ | refine Gr.drew ?_ | refine Gr.drewN ?_ _ | refine Gr.trans ?_ (by with_reducible assumption)))); rintro e w1 ⟨rfl, hg1⟩; obtain ⟨k1, k2, k3, k4⟩ := fin.out _ hg1)
    have hz := hg1.size
    simp at hz
    refine leaves_cons (f := 32) (args := #[.pointer (some ⟨w.heap.size, 0, none⟩), .pointer (some ⟨w.heap.size + 1, 0, none⟩)]) (by simp) (by simp [go_sem]) ?_
    refine (cutD_idle _ _ _).mono ?_
    rintro e u' w'' ⟨rfl, rfl, rfl⟩
    simp [Leaves, settle, results, Tryz.results16, go_sem, k1, k2]
    exact (by repeat (first | with_reducible exact Gr.refl _ | with_reducible assumption | refine Gr.setCell ?_ (by first | omega | (simp; done) | (simp; omega)) _ | refine Gr.alloc ?_ _ | refine Gr.drew ?_ | refine Gr.drewN ?_ _ | refine Gr.trans ?_ (by with_reducible assumption)))
  · have q1 : decide (a < 0) = true := decide_eq_true h
    go_enter_defers Tryz.func16, Tryz.ntmps16
    go_wp2_with (go_at_call 19; (with_reducible refine (HV.out _ ?_).mono ?_); (· exact (by repeat (first | with_reducible exact Gr.refl _ | with_reducible assumption | refine Gr.setCell ?_ (by first | omega | (simp; done) | (simp; omega)) _ | refine Gr.alloc ?_ _ | refine Gr.drew ?_ | refine Gr.drewN ?_ _ | refine Gr.trans ?_ (by with_reducible assumption)))); rintro e w1 ⟨rfl, hg1⟩; obtain ⟨k1, k2, k3, k4⟩ := fin.out _ hg1)
    have hz := hg1.size
    simp at hz
    refine leaves_cons (f := 32) (args := #[.pointer (some ⟨w.heap.size, 0, none⟩), .pointer (some ⟨w.heap.size + 1, 0, none⟩)]) (by simp) (by simp [go_sem]) ?_
    refine (cutD_idle _ _ _).mono ?_
    rintro e u' w'' ⟨rfl, rfl, rfl⟩
    simp [Leaves, settle, results, Tryz.results16, go_sem, k1, k2]
    exact (by repeat (first | with_reducible exact Gr.refl _ | with_reducible assumption | refine Gr.setCell ?_ (by first | omega | (simp; done) | (simp; omega)) _ | refine Gr.alloc ?_ _ | refine Gr.drew ?_ | refine Gr.drewN ?_ _ | refine Gr.trans ?_ (by with_reducible assumption)))
  · have q1 : decide (a < 0) = false := decide_eq_false (by omega); have q2 : decide (b < a) = true := decide_eq_true h
    go_enter_defers Tryz.func16, Tryz.ntmps16
    go_wp2_with (go_at_call 19; (with_reducible refine (HV.out _ ?_).mono ?_); (· exact (by repeat (first | with_reducible exact Gr.refl _ | with_reducible assumption | refine Gr.setCell ?_ (by first | omega | (simp; done) | (simp; omega)) _ | refine Gr.alloc ?_ _ | refine Gr.drew ?_ | refine Gr.drewN ?_ _ | refine Gr.trans ?_ (by with_reducible assumption)))); rintro e w1 ⟨rfl, hg1⟩; obtain ⟨k1, k2, k3, k4⟩ := fin.out _ hg1)
    have hz := hg1.size
    simp at hz
    refine leaves_cons (f := 32) (args := #[.pointer (some ⟨w.heap.size, 0, none⟩), .pointer (some ⟨w.heap.size + 1, 0, none⟩)]) (by simp) (by simp [go_sem]) ?_
    refine (cutD_idle _ _ _).mono ?_
    rintro e u' w'' ⟨rfl, rfl, rfl⟩
    simp [Leaves, settle, results, Tryz.results16, go_sem, k1, k2]
    exact (by repeat (first | with_reducible exact Gr.refl _ | with_reducible assumption | refine Gr.setCell ?_ (by first | omega | (simp; done) | (simp; omega)) _ | refine Gr.alloc ?_ _ | refine Gr.drew ?_ | refine Gr.drewN ?_ _ | refine Gr.trans ?_ (by with_reducible assumption)))
  · have q1 : decide (a < 0) = false := decide_eq_false (by omega); have q2 : decide (b < a) = false := decide_eq_false (by omega); have q3 : decide (2147483647 < b) = true := decide_eq_true h
    go_enter_defers Tryz.func16, Tryz.ntmps16
    go_wp2_with (go_at_call 19; (with_reducible refine (HV.out _ ?_).mono ?_); (· exact (by repeat (first | with_reducible exact Gr.refl _ | with_reducible assumption | refine Gr.setCell ?_ (by first | omega | (simp; done) | (simp; omega)) _ | refine Gr.alloc ?_ _ | refine Gr.drew ?_ | refine Gr.drewN ?_ _ | refine Gr.trans ?_ (by with_reducible assumption)))); rintro e w1 ⟨rfl, hg1⟩; obtain ⟨k1, k2, k3, k4⟩ := fin.out _ hg1)
    have hz := hg1.size
    simp at hz
    refine leaves_cons (f := 32) (args := #[.pointer (some ⟨w.heap.size, 0, none⟩), .pointer (some ⟨w.heap.size + 1, 0, none⟩)]) (by simp) (by simp [go_sem]) ?_
    refine (cutD_idle _ _ _).mono ?_
    rintro e u' w'' ⟨rfl, rfl, rfl⟩
    simp [Leaves, settle, results, Tryz.results16, go_sem, k1, k2]
    exact (by repeat (first | with_reducible exact Gr.refl _ | with_reducible assumption | refine Gr.setCell ?_ (by first | omega | (simp; done) | (simp; omega)) _ | refine Gr.alloc ?_ _ | refine Gr.drew ?_ | refine Gr.drewN ?_ _ | refine Gr.trans ?_ (by with_reducible assumption)))

theorem res_cells (w w1 : World) (a b : Value) (t t' : TypeId) (hg1 : Gr ((w.alloc (.cells #[a] t)).alloc (.cells #[b] t')) w1) : Cel w1 w.heap.size [a] ∧ Cel w1 (w.heap.size + 1) [b] := by
  have k1 := (Cel.new w #[a] t).alloc (.cells #[b] t') |>.gr hg1
  have k2 := (Cel.new (w.alloc (.cells #[a] t)) #[b] t').gr hg1
  simp at k1 k2
  exact ⟨k1, k2⟩
set_option maxRecDepth 20000 in
set_option maxHeartbeats 4000000 in
theorem cut_yes (v : Value) (cs : List Cu) (a b : Int) (w : World) (hC : Cues w v cs) (hgd : cutGood cs a b) :
    Calls Tryz.prog 16 #[v, .int .i64 a, .int .i64 b] w fun e w' => ∃ v' cs', e = .returned (.tuple #[v', .int .i64 0]) ∧ Gr w w' ∧ Cues w' v' cs' ∧ cs'.map cAbs = cutA a b (cs.map cAbs) := by
  obtain ⟨hv, ha, hab, hbm⟩ := hgd
  have hlen := hC.n
  have hmf := hmf_any Tryz.prog
  have HV : Hid (∀ w', Gr w w' → Calls Tryz.prog 19 #[v] w' fun e w'' => e = .returned (.bool true) ∧ Gr w' w'') := fun w' hg => by rw [← hv]; exact cvalid_any _ _ w' (hC.gr hg)
  obtain ⟨p, cap, rfl, hsh⟩ := hC.at_.shape
  have hC := Lib.hid hC
  have hsh := Lib.hid hsh
  have hv := Lib.hid hv
  have q1 : decide (a < 0) = false := decide_eq_false (by omega)
  have q2 : decide (b < a) = false := decide_eq_false (by omega)
  have q3 : decide (2147483647 < b) = false := decide_eq_false (by omega)
  obtain ⟨ic, hic, hic0, hic1, hic2⟩ := info_parts infoCue
  go_enter_defers Tryz.func16, Tryz.ntmps16
  go_wp2_with (go_at_call 19; (with_reducible refine (HV.out _ ?_).mono ?_); (· exact (by repeat (first | with_reducible exact Gr.refl _ | with_reducible assumption | refine Gr.setCell ?_ (by first | omega | (simp; done) | (simp; omega)) _ | refine Gr.alloc ?_ _ | refine Gr.drew ?_ | refine Gr.drewN ?_ _ | refine Gr.trans ?_ (by with_reducible assumption)))); rintro e w1 ⟨rfl, hg1⟩)
  have hg0 : Gr w w1 := ((((Gr.refl w).alloc _).alloc _).trans hg1)
  obtain ⟨kr1, kr2⟩ := res_cells _ _ _ _ _ _ hg1
  have hz1 := hg1.size
  simp at hz1
  go_loopw [8, 32] (fun o k wr => ∃ (kk : Nat) (cs' : List Cu), kk ≤ cs.length ∧ k = .int .i64 kk ∧ Gr w wr ∧ CuesO (w.heap.size + 2) 57 wr o cs' ∧ Cel wr w.heap.size [.slice none 0 0] ∧ Cel wr (w.heap.size + 1) [.int .i64 0] ∧ Hid (cs'.map cAbs = cutA a b ((cs.take kk).map cAbs) ∧ (∀ c ∈ cs', CuOk c) ∧ cs'.length ≤ kk ∧ (∀ c ∈ cs', ∀ k, c.lv.ownBlock = some k → w.heap.size + 2 ≤ k))) (fun _ k _ => cs.length - (RowKit.intOf k).toNat)
  case atStart => exact ⟨0, [], Nat.zero_le _, rfl, hg0, CuesO.nil _ _ _, kr1, kr2, ⟨rfl, fun c hc => (by cases hc), Nat.le_refl _, fun c hc => (by cases hc)⟩⟩
  case round =>
    obtain ⟨kk, cs', h3, rfl, hg, hO, kc1, kc2, hno⟩ := hrel
    clear HV hg1 hg0 kr1 kr2 hz1 w1
    obtain ⟨hcg, hfg⟩ := hg.cells
    have hsz := kc2.lt
    by_cases c1 : kk < cs.length
    · have q6 : decide (kk < cs.length) = true := decide_eq_true c1
      rcases hsh.out with h | ⟨b1, o1, rfl, hb1, hc1⟩
      · omega
      have hc1 := hc1 kk c1
      have e0 := (hcg b1 _ hb1).trans hc1.1
      have e1 := (hcg b1 _ hb1).trans hc1.2.1
      have e2 := (hcg b1 _ hb1).trans hc1.2.2
      have hx1 : b1 < wr.heap.size := Nat.lt_of_lt_of_le hb1 hg.size
      have hsa := (hC.out.at_.2 _ (List.getElem_mem c1)).gr hg
      have oka := hC.out.ok _ (List.getElem_mem c1)
      have hvc := vCu_bounds (vCues_mem hv.out (List.getElem_mem c1))
      have htk : Hid (cs.take (kk + 1) = cs.take kk ++ [cs[kk]]) := List.take_append_getElem c1 |>.symm
      generalize cs[kk] = c at e0 e1 e2 hsa oka hvc htk
      clear hcg hfg hc1
      have hO' := Lib.hid hO
      have kc1 := Lib.hid kc1
      have kc2 := Lib.hid kc2
      clear hO
      obtain ⟨p2, cap2, hl2, hh2⟩ := hsa.shape
      clear hh2
      rw [hl2] at e2
      obtain ⟨ma, hma⟩ : ∃ ma, (if c.f < a then a else c.f) = ma := ⟨_, rfl⟩
      obtain ⟨mb, hmb⟩ : ∃ mb, (if b < c.t then b else c.t) = mb := ⟨_, rfl⟩
      have dm : Hid (max c.f a = ma ∧ min c.t b = mb) := by refine Lib.hid ?_; rw [← hma, ← hmb]; constructor <;> split <;> omega
      have bm : 0 ≤ ma ∧ ma ≤ 2147483647 + a ∧ 0 ≤ mb ∧ mb ≤ 2147483647 := by rw [← hma, ← hmb]; refine ⟨?_, ?_, ?_, ?_⟩ <;> split <;> omega
      have hst := hno.out
      have hln := hst.2.2.1
      by_cases d1 : ma < mb
      · have r1 : decide (ma < mb) = true := decide_eq_true d1
        have hV : Hid (∀ lv, (cs' ++ [Cu.mk (ma - a) (mb - a) lv c.ss]).map cAbs = cutA a b ((cs.take (kk + 1)).map cAbs) ∧ (∀ d ∈ cs' ++ [Cu.mk (ma - a) (mb - a) lv c.ss], CuOk d) ∧ (cs' ++ [Cu.mk (ma - a) (mb - a) lv c.ss]).length ≤ kk + 1 ∧ ((∀ k, lv.ownBlock = some k → w.heap.size + 2 ≤ k) → ∀ d ∈ cs' ++ [Cu.mk (ma - a) (mb - a) lv c.ss], ∀ k, d.lv.ownBlock = some k → w.heap.size + 2 ≤ k)) := by
          intro lv
          refine ⟨?_, ?_, ?_, ?_⟩
          · rw [htk.out, List.map_append, List.map_append, hst.1]
            show _ = cutA a b (_ ++ [(c.f, c.t, c.ss)])
            rw [cutA_snoc, dm.out.1, dm.out.2, if_pos d1]
            rfl
          · intro d hd
            rcases List.mem_append.1 hd with h | h
            · exact hst.2.1 d h
            · rw [List.mem_singleton.1 h]
              exact ⟨by simp only; omega, by simp only; omega, by simp only; omega, by simp only; omega, oka.n, oka.s⟩
          · have := hst.2.2.1
            rw [List.length_append]
            show _ + 1 ≤ _
            omega
          · intro hk d hd
            rcases List.mem_append.1 hd with h | h
            · exact hst.2.2.2 d h
            · rw [List.mem_singleton.1 h]
              exact hk
        have HL : Hid (∀ w', Gr wr w' → Calls Tryz.prog 20 #[.slice p2 c.ss.length cap2] w' fun e w'' => ∃ v', e = .returned v' ∧ Gr w' w'' ∧ StrsR w'' v' c.ss ∧ (∀ base e', 9 ≠ e' → Far base e' w'' v') ∧ ∀ k, v'.ownBlock = some k → w'.heap.size ≤ k) := fun w' hg' => by
          have := clone_any c.lv c.ss w' (hsa.gr hg') (by omega)
          rw [hl2] at this
          exact this
        clear hst hno htk dm
        go_wp2
        refine wp_region_gr (by kernel_rfl) (by kernel_rfl) (fun hq1 hq2 => ?_)
        repeat (first | go_big_quiet_skip | (go_big_quiet_want; go_big_quiet_op; first | go_big_quiet_on | (apply Exists.intro; refine ⟨fun _ => ?_, ?_⟩; (· (fail)); go_big_quiet_on)))
        refine wpQuiet_nil ?_
        clear hq1 hq2
        rintro w1 ⟨⟨_, hg1⟩, rfl⟩
        obtain ⟨hc1, hf1⟩ := hg1.cells
        have hz1 := hg1.size
        (try simp at hz1); (try have hl1_0_0 : w.heap.size < w1.heap.size := by omega); (try have hm1_0_0 : w.heap.size ≤ w1.heap.size := by omega); (try have hl1_0_1 : w.heap.size + 1 < w1.heap.size := by omega); (try have hl1_0_2 : w.heap.size + 2 < w1.heap.size := by omega)
        have hnb := Cel.gr hg1 (Cel.new wr #[.int .i64 c.f, .int .i64 c.t, .slice p2 c.ss.length cap2] 57)
        obtain ⟨nx, n0, n1, n2, _, _, _⟩ := hnb.three
        go_wp2_with (first
          | (go_at_call 20; (with_reducible refine (HL.out _ ?_).mono ?_); (· exact (by repeat (first | with_reducible exact Gr.refl _ | with_reducible assumption | refine Gr.setCell ?_ (by first | omega | (simp; done) | (simp; omega)) _ | refine Gr.alloc ?_ _ | refine Gr.drew ?_ | refine Gr.drewN ?_ _ | refine Gr.trans ?_ (by with_reducible assumption)))); rintro e w2 ⟨lv, rfl, hg2, hs2, hf2, hk2⟩; obtain ⟨p3, cap3, rfl, hh3⟩ := hs2.shape; clear hh3)
          | (at_builtin; go_loud (refine wpList_append_rd rfl (.tmp 47) (.tmp 58) 24 rfl (w.heap.size + 2) 57 ic (.agg #[.int .i64 0, .int .i64 0, .slice none 0 0]) 3 40 (by kernel_rfl) hic hic0 hic1 hic2 rfl (by decide) _ _ _ rfl (((hO'.out.gr (((Gr.refl wr).alloc _).trans hg1)).gr hg2).own.alloc _) _ 1 [.int .i64 (ma - a), .int .i64 (mb - a), .slice p3 c.ss.length cap3] rfl (Rd.new w2 #[.int .i64 (ma - a), .int .i64 (mb - a), .slice p3 c.ss.length cap3] 57 1 3 1 rfl) ?_ ?_ ?_ ?_ ?_); (· intro u hu; simp at hu; rcases hu with rfl | rfl | rfl <;> rfl); (· unfold maxLen; omega); (· omega); (· have := hg1.size; have := hg2.size; simp at *; omega); intro v3 w3 hown3 hgrow3))
        have hgA : Gr wr (w2.alloc (.cells #[.int .i64 (ma - a), .int .i64 (mb - a), .slice p3 c.ss.length cap3] 57)) := ((((Gr.refl wr).alloc _).trans hg1).trans hg2).alloc _
        have hO3 := (hO'.out.gr hgA).app ⟨ma - a, mb - a, .slice p3 c.ss.length cap3, c.ss⟩ (Rd.gr ((Gr.refl w2).alloc _) hs2) (Far.gr ((Gr.refl w2).alloc _) (hf2 _ _ (by decide))) hown3 hgrow3
        have hge := own_ge hO'.out.own
        have hg3 : Gr w w3 := (hg.trans hgA).grown hgrow3 (fun k hk => by have := hge k hk; omega)
        have ke1 := (kc1.out.gr hgA).grown hgrow3 (fun h => by have := hge _ h; omega)
        have ke2 := (kc2.out.gr hgA).grown hgrow3 (fun h => by have := hge _ h; omega)
        clear hown3 hgrow3
        go_roundw
        case rel => exact ⟨kk + 1, _, by omega, by go_num, hg3, hO3, ke1, ke2, Lib.hid ⟨(hV.out _).1, (hV.out _).2.1, (hV.out _).2.2.1, (hV.out _).2.2.2 (fun k hk => by have := hk2 k hk; have := hg1.size; simp at this; omega)⟩⟩
        case measure => simp [RowKit.intOf]; omega
      · have r1 : decide (ma < mb) = false := decide_eq_false d1
        have hV : Hid (cs'.map cAbs = cutA a b ((cs.take (kk + 1)).map cAbs) ∧ (∀ d ∈ cs', CuOk d) ∧ cs'.length ≤ kk + 1 ∧ (∀ c ∈ cs', ∀ k, c.lv.ownBlock = some k → w.heap.size + 2 ≤ k)) := by
          refine ⟨?_, hst.2.1, by omega, hst.2.2.2⟩
          rw [htk.out, List.map_append, hst.1]
          show _ = cutA a b (_ ++ [(c.f, c.t, c.ss)])
          rw [cutA_snoc, dm.out.1, dm.out.2, if_neg d1]
        clear hst hno htk dm
        go_wp2
        refine wp_region_gr (by kernel_rfl) (by kernel_rfl) (fun hq1 hq2 => ?_)
        repeat (first | go_big_quiet_skip | (go_big_quiet_want; go_big_quiet_op; first | go_big_quiet_on | (apply Exists.intro; refine ⟨fun _ => ?_, ?_⟩; (· (fail)); go_big_quiet_on)))
        refine wpQuiet_nil ?_
        clear hq1 hq2
        rintro w1 ⟨⟨_, hg1⟩, rfl⟩
        obtain ⟨hc1, hf1⟩ := hg1.cells
        have hz1 := hg1.size
        (try simp at hz1); (try have hl1_0_0 : w.heap.size < w1.heap.size := by omega); (try have hm1_0_0 : w.heap.size ≤ w1.heap.size := by omega); (try have hl1_0_1 : w.heap.size + 1 < w1.heap.size := by omega); (try have hl1_0_2 : w.heap.size + 2 < w1.heap.size := by omega)
        go_wp2
        have hgA : Gr wr w1 := ((Gr.refl wr).alloc _).trans hg1
        go_roundw
        case rel => exact ⟨kk + 1, cs', by omega, by go_num, hg.trans hgA, hO'.out.gr hgA, kc1.out.gr hgA, kc2.out.gr hgA, hV⟩
        case measure => simp [RowKit.intOf]; omega
    · have q6 : decide (kk < cs.length) = false := decide_eq_false c1
      obtain ⟨m1, m2, m3, m4⟩ := hno.out
      have m4 := Lib.hid m4
      have hkk : kk = cs.length := by omega
      rw [hkk, List.take_length] at m1
      have hno := Lib.hid m1
      clear m1 hcg hfg hkk hsh hC
      have m2 := Lib.hid m2
      obtain ⟨f1, f3⟩ := kc1.one
      obtain ⟨f2, f4⟩ := kc2.one
      obtain ⟨po, co, rfl⟩ := own_shape hO.own
      go_wp2
      refine leaves_cons (f := 32) (args := #[.pointer (some ⟨w.heap.size, 0, none⟩), .pointer (some ⟨w.heap.size + 1, 0, none⟩)]) (by simp) (by simp [go_sem]) ?_
      refine (cutD_idle _ _ _).mono ?_
      rintro e u' w'' ⟨rfl, rfl, rfl⟩
      have hrd : CuesR ((wr.setCell ⟨w.heap.size, 0, none⟩ (.slice po cs'.length co)).setCell ⟨w.heap.size + 1, 0, none⟩ (.int .i64 0)) (.slice po cs'.length co) cs' := by
        have hge := own_ge hO.own
        have hb1 : (Value.slice po cs'.length co).ownBlock ≠ some w.heap.size := fun h => by have := hge _ h; omega
        have hb2 : (Value.slice po cs'.length co).ownBlock ≠ some (w.heap.size + 1) := fun h => by have := hge _ h; omega
        exact (hO.read.setCell ⟨w.heap.size, 0, none⟩ _ hb1 (fun c hc h => by have : w.heap.size + 2 ≤ w.heap.size := m4.out c hc _ h; omega)).setCell ⟨w.heap.size + 1, 0, none⟩ _ hb2 (fun c hc h => by have : w.heap.size + 2 ≤ w.heap.size + 1 := m4.out c hc _ h; omega)
      simp [Leaves, settle, results, Tryz.results16, go_sem, f1, f2]
      exact ⟨(by repeat (first | with_reducible exact Gr.refl _ | with_reducible assumption | refine Gr.setCell ?_ (by first | omega | (simp; done) | (simp; omega)) _ | refine Gr.alloc ?_ _ | refine Gr.drew ?_ | refine Gr.drewN ?_ _ | refine Gr.trans ?_ (by with_reducible assumption))), cs', ⟨hrd, m2.out, by omega⟩, hno.out⟩
end Go.Proofs.YthadhmhbbfjomaaGreatDoor
