/-
  Contract of Repair of package captions.
  Conditions: the list lies in memory.
-/
import Derived.Test.YtckmebfgianeoaaDoorWalkSy
import Derived.Test.YtckmebfgianeoaaDoorWalkWp
import Derived.Test.YtckmebfgianeoaaDoorWalkRu
import Derived.Test.YtckmebfgianeoaaDoorWalkCu
namespace Go.Proofs.YtckmebfgianeoaaDoor
open Go.RowKit Go.Lib
set_option linter.unusedSimpArgs false
set_option linter.unusedVariables false

def Ru.cells (r : Ru) : List Value := [.int .i64 r.s, .int .i64 r.l, .int .i64 r.g, .int .i64 r.wd]
theorem Cel.four {W : World} {g : Nat} {a b c d : Value} (h : Cel W g [a, b, c, d]) : W.cell? ⟨g, 0, none⟩ = some a ∧ W.cell? ⟨g, 1, none⟩ = some b ∧ W.cell? ⟨g, 2, none⟩ = some c ∧ W.cell? ⟨g, 3, none⟩ = some d :=
  ⟨(h.2 0 a rfl).1, (h.2 1 b rfl).1, (h.2 2 c rfl).1, (h.2 3 d rfl).1⟩
def repOk (cs : List Cu) (r : Ru) (e : Int) : Prop := vCues cs = true ∧ ruB r = true ∧ 0 ≤ e ∧ e ≤ 2147483647

set_option maxRecDepth 20000 in
set_option maxHeartbeats 4000000 in
theorem repair_no (v : Value) (cs : List Cu) (r : Ru) (e : Int) (w : World) (hC : Cues w v cs) (h : ¬ repOk cs r e) :
    Calls Tryd.prog 33 #[v, r.val, .int .i64 e] w fun e w' => e = .returned (.tuple #[.slice none 0 0, .int .i64 1]) ∧ Gr w w' := by
  obtain ⟨p, cap, rfl, hsh⟩ := hC.at_.shape
  clear hsh
  have hmf := hmf_any Tryd.prog
  have hL : Hid (∃ bv sv : Bool, (∀ w', Gr w w' → Calls Tryd.prog 37 #[.slice p cs.length cap] w' fun e w'' => e = .returned (.bool bv) ∧ Gr w' w'') ∧ (∀ w', Calls Tryd.prog 60 #[r.val] w' fun e w'' => e = .returned (.bool sv) ∧ Gr w' w'') ∧ (bv = false ∨ (bv = true ∧ sv = false) ∨ (bv = true ∧ sv = true ∧ e < 0) ∨ (bv = true ∧ sv = true ∧ 0 ≤ e ∧ 2147483647 < e))) := by
    refine ⟨vCues cs, ruB r, fun w' hg => cvalid_any _ _ w' (hC.gr hg), fun w' => validRules_any r w', ?_⟩
    unfold repOk at h
    cases hv : vCues cs with
    | false => exact .inl rfl
    | true =>
      cases hs : ruB r with
      | false => exact .inr (.inl ⟨rfl, rfl⟩)
      | true =>
        rw [hv, hs] at h
        rcases Int.lt_or_le e 0 with h1 | h1
        · exact .inr (.inr (.inl ⟨rfl, rfl, h1⟩))
        · rcases Int.lt_or_le 2147483647 e with h2 | h2
          · exact .inr (.inr (.inr ⟨rfl, rfl, h1, h2⟩))
          · exact absurd ⟨rfl, rfl, h1, h2⟩ h
  clear hC h
  obtain ⟨bv, sv, HV, HS, h⟩ := hL.out
  have HV := Lib.hid HV
  have HS := Lib.hid HS
  clear hL
  obtain ⟨rs, rl, rg, rw_⟩ := r
  unfold Ru.val at HS ⊢
  simp only at HS ⊢
  have fin : ∀ w1 : World, Gr (((w.alloc (.cells #[.int .i64 rs, .int .i64 rl, .int .i64 rg, .int .i64 rw_] 57)).alloc (.cells #[.slice none 0 0] 22)).alloc (.cells #[.int .i64 0] 28)) w1 → Cel w1 w.heap.size [.int .i64 rs, .int .i64 rl, .int .i64 rg, .int .i64 rw_] ∧ Cel w1 (w.heap.size + 1) [.slice none 0 0] ∧ Cel w1 (w.heap.size + 2) [.int .i64 0] := by
    intro w1 hg1
    have k0 := ((Cel.new w #[.int .i64 rs, .int .i64 rl, .int .i64 rg, .int .i64 rw_] 57).alloc (.cells #[.slice none 0 0] 22)).alloc (.cells #[.int .i64 0] 28) |>.gr hg1
    have k1 := (Cel.new (w.alloc (.cells #[.int .i64 rs, .int .i64 rl, .int .i64 rg, .int .i64 rw_] 57)) #[.slice none 0 0] 22).alloc (.cells #[.int .i64 0] 28) |>.gr hg1
    have k2 := (Cel.new ((w.alloc (.cells #[.int .i64 rs, .int .i64 rl, .int .i64 rg, .int .i64 rw_] 57)).alloc (.cells #[.slice none 0 0] 22)) #[.int .i64 0] 28).gr hg1
    simp at k0 k1 k2
    exact ⟨k0, k1, k2⟩
  have fin := Lib.hid fin
  rcases h with rfl | ⟨rfl, rfl⟩ | ⟨rfl, rfl, h⟩ | ⟨rfl, rfl, h1, h⟩
  · have q1 := 1
    go_enter_defers Tryd.func33, Tryd.ntmps33
    go_wp2_with (first
      | (go_at_call 37; (with_reducible refine (HV.out _ ?_).mono ?_); (· exact (by repeat (first | with_reducible exact Gr.refl _ | with_reducible assumption | refine Gr.setCell ?_ (by first | omega | (simp; done) | (simp; omega)) _ | refine Gr.alloc ?_ _ | refine Gr.drew ?_ | refine Gr.drewN ?_ _ | refine Gr.trans ?_ (by with_reducible assumption)))); rintro e w1 ⟨rfl, hg1⟩; obtain ⟨k0, k1, k2⟩ := fin.out _ hg1; have x0 := k0.lt; obtain ⟨a0, a1, a2, a3⟩ := k0.four; obtain ⟨a4, b4⟩ := k1.one; obtain ⟨a5, b5⟩ := k2.one)
      | (go_at_call 60; (with_reducible refine (HS.out _).mono ?_); rintro e w2 ⟨rfl, hg2⟩; have k12 := k1.gr hg2; have k22 := k2.gr hg2; obtain ⟨a6, b6⟩ := k12.one; obtain ⟨a7, b7⟩ := k22.one))
    have hz := hg1.size
    simp at hz
    refine leaves_cons (f := 59) (args := #[.pointer (some ⟨w.heap.size + 1, 0, none⟩), .pointer (some ⟨w.heap.size + 2, 0, none⟩)]) (by simp) (by simp [go_sem]) ?_
    refine (repairD_idle _ _ _).mono ?_
    rintro e u' w'' ⟨rfl, rfl, rfl⟩
    first
    | (simp [Leaves, settle, results, Tryd.results33, go_sem, a6, a7]; exact (by repeat (first | with_reducible exact Gr.refl _ | with_reducible assumption | refine Gr.setCell ?_ (by first | omega | (simp; done) | (simp; omega)) _ | refine Gr.alloc ?_ _ | refine Gr.drew ?_ | refine Gr.drewN ?_ _ | refine Gr.trans ?_ (by with_reducible assumption))))
    | (simp [Leaves, settle, results, Tryd.results33, go_sem, a4, a5]; exact (by repeat (first | with_reducible exact Gr.refl _ | with_reducible assumption | refine Gr.setCell ?_ (by first | omega | (simp; done) | (simp; omega)) _ | refine Gr.alloc ?_ _ | refine Gr.drew ?_ | refine Gr.drewN ?_ _ | refine Gr.trans ?_ (by with_reducible assumption))))
    | (simp [Leaves, settle, results, Tryd.results33, go_sem, a6, a7]; done)
    | (simp [Leaves, settle, results, Tryd.results33, go_sem, a4, a5]; done)
  · have q1 := 1
    go_enter_defers Tryd.func33, Tryd.ntmps33
    go_wp2_with (first
      | (go_at_call 37; (with_reducible refine (HV.out _ ?_).mono ?_); (· exact (by repeat (first | with_reducible exact Gr.refl _ | with_reducible assumption | refine Gr.setCell ?_ (by first | omega | (simp; done) | (simp; omega)) _ | refine Gr.alloc ?_ _ | refine Gr.drew ?_ | refine Gr.drewN ?_ _ | refine Gr.trans ?_ (by with_reducible assumption)))); rintro e w1 ⟨rfl, hg1⟩; obtain ⟨k0, k1, k2⟩ := fin.out _ hg1; have x0 := k0.lt; obtain ⟨a0, a1, a2, a3⟩ := k0.four; obtain ⟨a4, b4⟩ := k1.one; obtain ⟨a5, b5⟩ := k2.one)
      | (go_at_call 60; (with_reducible refine (HS.out _).mono ?_); rintro e w2 ⟨rfl, hg2⟩; have k12 := k1.gr hg2; have k22 := k2.gr hg2; obtain ⟨a6, b6⟩ := k12.one; obtain ⟨a7, b7⟩ := k22.one))
    have hz := hg1.size
    simp at hz
    refine leaves_cons (f := 59) (args := #[.pointer (some ⟨w.heap.size + 1, 0, none⟩), .pointer (some ⟨w.heap.size + 2, 0, none⟩)]) (by simp) (by simp [go_sem]) ?_
    refine (repairD_idle _ _ _).mono ?_
    rintro e u' w'' ⟨rfl, rfl, rfl⟩
    first
    | (simp [Leaves, settle, results, Tryd.results33, go_sem, a6, a7]; exact (by repeat (first | with_reducible exact Gr.refl _ | with_reducible assumption | refine Gr.setCell ?_ (by first | omega | (simp; done) | (simp; omega)) _ | refine Gr.alloc ?_ _ | refine Gr.drew ?_ | refine Gr.drewN ?_ _ | refine Gr.trans ?_ (by with_reducible assumption))))
    | (simp [Leaves, settle, results, Tryd.results33, go_sem, a4, a5]; exact (by repeat (first | with_reducible exact Gr.refl _ | with_reducible assumption | refine Gr.setCell ?_ (by first | omega | (simp; done) | (simp; omega)) _ | refine Gr.alloc ?_ _ | refine Gr.drew ?_ | refine Gr.drewN ?_ _ | refine Gr.trans ?_ (by with_reducible assumption))))
    | (simp [Leaves, settle, results, Tryd.results33, go_sem, a6, a7]; done)
    | (simp [Leaves, settle, results, Tryd.results33, go_sem, a4, a5]; done)
  · have q1 : decide (e < 0) = true := decide_eq_true h
    go_enter_defers Tryd.func33, Tryd.ntmps33
    go_wp2_with (first
      | (go_at_call 37; (with_reducible refine (HV.out _ ?_).mono ?_); (· exact (by repeat (first | with_reducible exact Gr.refl _ | with_reducible assumption | refine Gr.setCell ?_ (by first | omega | (simp; done) | (simp; omega)) _ | refine Gr.alloc ?_ _ | refine Gr.drew ?_ | refine Gr.drewN ?_ _ | refine Gr.trans ?_ (by with_reducible assumption)))); rintro e w1 ⟨rfl, hg1⟩; obtain ⟨k0, k1, k2⟩ := fin.out _ hg1; have x0 := k0.lt; obtain ⟨a0, a1, a2, a3⟩ := k0.four; obtain ⟨a4, b4⟩ := k1.one; obtain ⟨a5, b5⟩ := k2.one)
      | (go_at_call 60; (with_reducible refine (HS.out _).mono ?_); rintro e w2 ⟨rfl, hg2⟩; have k12 := k1.gr hg2; have k22 := k2.gr hg2; obtain ⟨a6, b6⟩ := k12.one; obtain ⟨a7, b7⟩ := k22.one))
    have hz := hg1.size
    simp at hz
    refine leaves_cons (f := 59) (args := #[.pointer (some ⟨w.heap.size + 1, 0, none⟩), .pointer (some ⟨w.heap.size + 2, 0, none⟩)]) (by simp) (by simp [go_sem]) ?_
    refine (repairD_idle _ _ _).mono ?_
    rintro e u' w'' ⟨rfl, rfl, rfl⟩
    first
    | (simp [Leaves, settle, results, Tryd.results33, go_sem, a6, a7]; exact (by repeat (first | with_reducible exact Gr.refl _ | with_reducible assumption | refine Gr.setCell ?_ (by first | omega | (simp; done) | (simp; omega)) _ | refine Gr.alloc ?_ _ | refine Gr.drew ?_ | refine Gr.drewN ?_ _ | refine Gr.trans ?_ (by with_reducible assumption))))
    | (simp [Leaves, settle, results, Tryd.results33, go_sem, a4, a5]; exact (by repeat (first | with_reducible exact Gr.refl _ | with_reducible assumption | refine Gr.setCell ?_ (by first | omega | (simp; done) | (simp; omega)) _ | refine Gr.alloc ?_ _ | refine Gr.drew ?_ | refine Gr.drewN ?_ _ | refine Gr.trans ?_ (by with_reducible assumption))))
    | (simp [Leaves, settle, results, Tryd.results33, go_sem, a6, a7]; done)
    | (simp [Leaves, settle, results, Tryd.results33, go_sem, a4, a5]; done)
  · have q1 : decide (e < 0) = false := decide_eq_false (by omega); have q2 : decide (2147483647 < e) = true := decide_eq_true h
    go_enter_defers Tryd.func33, Tryd.ntmps33
    go_wp2_with (first
      | (go_at_call 37; (with_reducible refine (HV.out _ ?_).mono ?_); (· exact (by repeat (first | with_reducible exact Gr.refl _ | with_reducible assumption | refine Gr.setCell ?_ (by first | omega | (simp; done) | (simp; omega)) _ | refine Gr.alloc ?_ _ | refine Gr.drew ?_ | refine Gr.drewN ?_ _ | refine Gr.trans ?_ (by with_reducible assumption)))); rintro e w1 ⟨rfl, hg1⟩; obtain ⟨k0, k1, k2⟩ := fin.out _ hg1; have x0 := k0.lt; obtain ⟨a0, a1, a2, a3⟩ := k0.four; obtain ⟨a4, b4⟩ := k1.one; obtain ⟨a5, b5⟩ := k2.one)
      | (go_at_call 60; (with_reducible refine (HS.out _).mono ?_); rintro e w2 ⟨rfl, hg2⟩; have k12 := k1.gr hg2; have k22 := k2.gr hg2; obtain ⟨a6, b6⟩ := k12.one; obtain ⟨a7, b7⟩ := k22.one))
    have hz := hg1.size
    simp at hz
    refine leaves_cons (f := 59) (args := #[.pointer (some ⟨w.heap.size + 1, 0, none⟩), .pointer (some ⟨w.heap.size + 2, 0, none⟩)]) (by simp) (by simp [go_sem]) ?_
    refine (repairD_idle _ _ _).mono ?_
    rintro e u' w'' ⟨rfl, rfl, rfl⟩
    first
    | (simp [Leaves, settle, results, Tryd.results33, go_sem, a6, a7]; exact (by repeat (first | with_reducible exact Gr.refl _ | with_reducible assumption | refine Gr.setCell ?_ (by first | omega | (simp; done) | (simp; omega)) _ | refine Gr.alloc ?_ _ | refine Gr.drew ?_ | refine Gr.drewN ?_ _ | refine Gr.trans ?_ (by with_reducible assumption))))
    | (simp [Leaves, settle, results, Tryd.results33, go_sem, a4, a5]; exact (by repeat (first | with_reducible exact Gr.refl _ | with_reducible assumption | refine Gr.setCell ?_ (by first | omega | (simp; done) | (simp; omega)) _ | refine Gr.alloc ?_ _ | refine Gr.drew ?_ | refine Gr.drewN ?_ _ | refine Gr.trans ?_ (by with_reducible assumption))))
    | (simp [Leaves, settle, results, Tryd.results33, go_sem, a6, a7]; done)
    | (simp [Leaves, settle, results, Tryd.results33, go_sem, a4, a5]; done)

set_option maxRecDepth 20000 in
set_option maxHeartbeats 4000000 in
theorem repair_yes (v : Value) (cs : List Cu) (r : Ru) (e : Int) (w : World) (hC : Cues w v cs) (hok : repOk cs r e) :
    Calls Tryd.prog 33 #[v, r.val, .int .i64 e] w fun en w' => ∃ v' cs' ts, en = .returned (.tuple #[v', .int .i64 0]) ∧ Gr w w' ∧ Cues w' v' cs' ∧ IsSt cs ts ∧ cs'.map cAbs = repGo r e 0 ((ts.map Prod.fst).map cAbs) := by
  obtain ⟨hv, hr, he0, he1⟩ := hok
  have hn := hC.n
  have hmf := hmf_any Tryd.prog
  have HV : Hid (∀ w', Gr w w' → Calls Tryd.prog 37 #[v] w' fun e w'' => e = .returned (.bool true) ∧ Gr w' w'') := fun w' hg => by rw [← hv]; exact cvalid_any _ _ w' (hC.gr hg)
  have HS : Hid (∀ w', Calls Tryd.prog 60 #[r.val] w' fun e w'' => e = .returned (.bool true) ∧ Gr w' w'') := fun w' => by rw [← hr]; exact validRules_any r w'
  obtain ⟨p, cap, rfl, hsh⟩ := hC.at_.shape
  have hrb := hr
  unfold ruB at hrb
  rw [decide_eq_true_eq] at hrb
  obtain ⟨rs, rl, rg, rk⟩ := r
  simp only at hrb
  obtain ⟨R, hR⟩ : ∃ R : Ru, R = ⟨rs, rl, rg, rk⟩ := ⟨_, rfl⟩
  rw [← hR] at hr ⊢
  have hv4 : R.val = .agg #[.int .i64 rs, .int .i64 rl, .int .i64 rg, .int .i64 rk] := by rw [hR]; rfl
  rw [hv4]
  rw [← hR, hv4] at HS
  have hR := Lib.hid hR
  have hC := Lib.hid hC
  have hsh := Lib.hid hsh
  have hv := Lib.hid hv
  have hr := Lib.hid hr
  have q1 : decide (e < 0) = false := decide_eq_false (by omega)
  have q2 : decide (2147483647 < e) = false := decide_eq_false (by omega)
  obtain ⟨ic, hic, hic0, hic1, hic2⟩ := info_parts infoCue
  have fin : ∀ w1 : World, Gr (((w.alloc (.cells #[.int .i64 rs, .int .i64 rl, .int .i64 rg, .int .i64 rk] 57)).alloc (.cells #[.slice none 0 0] 22)).alloc (.cells #[.int .i64 0] 28)) w1 → Cel w1 w.heap.size [.int .i64 rs, .int .i64 rl, .int .i64 rg, .int .i64 rk] ∧ Cel w1 (w.heap.size + 1) [.slice none 0 0] ∧ Cel w1 (w.heap.size + 2) [.int .i64 0] := by
    intro w1 hg1
    have k0 := ((Cel.new w #[.int .i64 rs, .int .i64 rl, .int .i64 rg, .int .i64 rk] 57).alloc (.cells #[.slice none 0 0] 22)).alloc (.cells #[.int .i64 0] 28) |>.gr hg1
    have k1 := (Cel.new (w.alloc (.cells #[.int .i64 rs, .int .i64 rl, .int .i64 rg, .int .i64 rk] 57)) #[.slice none 0 0] 22).alloc (.cells #[.int .i64 0] 28) |>.gr hg1
    have k2 := (Cel.new ((w.alloc (.cells #[.int .i64 rs, .int .i64 rl, .int .i64 rg, .int .i64 rk] 57)).alloc (.cells #[.slice none 0 0] 22)) #[.int .i64 0] 28).gr hg1
    simp at k0 k1 k2
    exact ⟨k0, k1, k2⟩
  have fin := Lib.hid fin
  have hone : Hid (∀ x ∈ cs, x.lv.oneCell' = true) := fun x hx => Rd.oneCell (hC.out.at_.2 x hx)
  have HCl : Hid (∀ w', Gr w w' → Calls Tryd.prog 61 #[.slice p cs.length cap] w' fun e w'' => ∃ v', e = .returned v' ∧ Gr w' w'' ∧ w''.ownsRow w'.heap.size 66 3 v' cs.length (flat cs)) := fun w' hg => cclone_any _ cs w' (hC.out.at_.1.gr hg) (fun u hu => by
    unfold flat at hu
    obtain ⟨c, hc, hu⟩ := List.mem_flatMap.1 hu
    exact cu_oneCell (hone.out c hc) u hu) (by omega)
  go_enter_defers Tryd.func33, Tryd.ntmps33
  go_wp2_with (first
    | (go_at_call 37; (with_reducible refine (HV.out _ ?_).mono ?_); (· exact (by repeat (first | with_reducible exact Gr.refl _ | with_reducible assumption | refine Gr.setCell ?_ (by first | omega | (simp; done) | (simp; omega)) _ | refine Gr.alloc ?_ _ | refine Gr.drew ?_ | refine Gr.drewN ?_ _ | refine Gr.trans ?_ (by with_reducible assumption)))); rintro e w1 ⟨rfl, hg1⟩; obtain ⟨k0, k1, k2⟩ := fin.out _ hg1; have x0 := k0.lt; obtain ⟨a0, a1, a2, a3⟩ := k0.four)
    | (go_at_call 60; (with_reducible refine (HS.out _).mono ?_); rintro e w2 ⟨rfl, hg2⟩; have k02 := k0.gr hg2; have k12 := k1.gr hg2; have k22 := k2.gr hg2; have hw2 : Gr w w2 := (((((Gr.refl w).alloc _).alloc _).alloc _).trans hg1).trans hg2)
    | (go_at_call 61; (with_reducible refine (HCl.out _ hw2).mono ?_); rintro e w3 ⟨sv, rfl, hg3, hown3⟩; obtain ⟨sa, sc, hsv⟩ := own_shape hown3; subst hsv; have HST := Lib.hid (sort_all w2.heap.size sc sa cs w3 hown3 hone.out (by omega)); have hown3 := Lib.hid hown3)
    | (go_at_call 62; (with_reducible refine HST.out.mono ?_); rintro e w4 ⟨rfl, ts, hIs, hgr4, hRd4⟩))
  have hw3 := hw2.trans hg3
  have hge3 := own_ge hown3.out
  have hz1 := hg1.size
  simp at hz1
  have hz2 := hg2.size
  have hw4 : Gr w w4 := hw3.grown hgr4 (fun k hk => by have := hge3 k hk; omega)
  have k04 := (k02.gr hg3).grown hgr4 (fun h => by have := hge3 _ h; omega)
  have k14 := (k12.gr hg3).grown hgr4 (fun h => by have := hge3 _ h; omega)
  have k24 := (k22.gr hg3).grown hgr4 (fun h => by have := hge3 _ h; omega)
  have hmem := hIs.mem
  have hlen : (ts.map Prod.fst).length = cs.length := by rw [List.length_map, hIs.len]
  obtain ⟨ss, hss⟩ : ∃ ss, ts.map Prod.fst = ss := ⟨_, rfl⟩
  rw [hss] at hmem hlen hRd4
  obtain ⟨RES, hRES⟩ : ∃ RES, repGo R e 0 (ss.map cAbs) = RES := ⟨_, rfl⟩
  have hfin : Hid (IsSt cs ts ∧ repGo R e 0 ((ts.map Prod.fst).map cAbs) = RES) := ⟨hIs, by rw [hss]; exact hRES⟩
  have hmem := Lib.hid hmem
  have hRd4 := Lib.hid hRd4
  have HS0 : Hid (([] : List Cu).map cAbs ++ repGo R e 0 ((ss.drop 0).map cAbs) = RES ∧ (∀ c ∈ ([] : List Cu), CuOk c) ∧ ([] : List Cu).length ≤ 0 ∧ ∀ c ∈ ([] : List Cu), ∀ k, c.lv.ownBlock = some k → w4.heap.size ≤ k) := ⟨hRES, fun c hc => (by cases hc), Nat.le_refl _, fun c hc => (by cases hc)⟩
  have hz4 := k04.lt
  have hx4 := k24.lt
  have k04 := Lib.hid k04
  have k14 := Lib.hid k14
  have k24 := Lib.hid k24
  clear hIs hss hRES hgr4 hown3 hge3 HST HCl HV HS fin k0 k1 k2 k02 k12 k22 hg1 hg2 hg3 hw2 hw3 a0 a1 a2 a3 x0
  go_loopw [9, 10, 39] (fun o fr i wr => ∃ (kk : Nat) (fv : Int) (cs' : List Cu), i = .int .i64 kk ∧ fr = .int .i64 fv ∧ kk ≤ cs.length ∧ 0 ≤ fv ∧ fv ≤ 4294967294 ∧ Gr w4 wr ∧ CuesO w4.heap.size 66 wr o cs' ∧ Hid (cs'.map cAbs ++ repGo R e fv ((ss.drop kk).map cAbs) = RES ∧ (∀ c ∈ cs', CuOk c) ∧ cs'.length ≤ kk ∧ ∀ c ∈ cs', ∀ k, c.lv.ownBlock = some k → w4.heap.size ≤ k)) (fun _ _ i _ => cs.length - (RowKit.intOf i).toNat)
  case atStart => exact ⟨0, 0, [], rfl, rfl, Nat.zero_le _, by omega, by omega, Gr.refl _, CuesO.nil _ _ _, HS0⟩
  case round =>
    obtain ⟨kk, fv, cs', rfl, rfl, h3, hf0, hf1, hgw, hO, hno⟩ := hrel
    clear HS0
    have hsz := hgw.size
    by_cases c1 : kk < cs.length
    · have q6 : decide (kk < cs.length) = true := decide_eq_true c1
      have cl : kk < ss.length := by omega
      obtain ⟨b1, o1, cp1, hsv, hb1, hcl⟩ := hRd4.out.addr (by omega)
      injection hsv with hs1 hs2 hs3
      subst hs1 hs3
      have hfl := flat_at ss kk cl
      have e0 := (hgw.cells.1 b1 _ hb1).trans (hcl _ _ hfl.1)
      have e1 := (hgw.cells.1 b1 _ hb1).trans (hcl _ _ hfl.2.1)
      have e2 := (hgw.cells.1 b1 _ hb1).trans (hcl _ _ hfl.2.2)
      rw [← Nat.add_assoc] at e1 e2
      have hx1 : b1 < wr.heap.size := Nat.lt_of_lt_of_le hb1 hgw.size
      have hcm := hmem.out _ (List.getElem_mem cl)
      have hsa := (hC.out.at_.2 _ hcm).gr (hw4.trans hgw)
      have hvc := vCu_bounds (vCues_mem hv.out hcm)
      have hst := hno.out
      rw [List.drop_eq_getElem_cons cl, List.map_cons] at hst
      generalize ss[kk] = c at e0 e1 e2 hsa hvc hst hfl hcm
      clear hcl hfl hcm
      have hO := Lib.hid hO
      obtain ⟨p2, cap2, hl2, hh2⟩ := hsa.shape
      clear hh2
      rw [hl2] at e2 hsa
      have hr0 := k04.out.gr hgw
      obtain ⟨r0, r1, r2, r3⟩ := hr0.four
      have hx2 := hr0.lt
      clear hr0
      obtain ⟨ma, hma⟩ : ∃ ma, max c.f fv = ma := ⟨_, rfl⟩
      obtain ⟨m1, hm1⟩ : ∃ m1, max c.t (ma + rs) = m1 := ⟨_, rfl⟩
      obtain ⟨m2, hm2⟩ : ∃ m2, (if ma + rl < m1 then ma + rl else m1) = m2 := ⟨_, rfl⟩
      obtain ⟨mb, hmb⟩ : ∃ mb, (if e < m2 then e else m2) = mb := ⟨_, rfl⟩
      have dma : repA fv (cAbs c) = ma := hma
      have dmb : repB R e fv (cAbs c) = mb := by
        unfold repB
        rw [dma, hR.out]
        simp only
        have : (cAbs c).2.1 = c.t := rfl
        rw [this, hm1, ← hmb, ← hm2]
        split <;> split <;> omega
      have bma : 0 ≤ ma ∧ ma ≤ 4294967294 := by rw [← hma]; omega
      have bm1 : 0 ≤ m1 ∧ m1 ≤ 8589934592 := by rw [← hm1]; omega
      have bm2 : 0 ≤ m2 ∧ m2 ≤ 8589934592 := by rw [← hm2]; split <;> omega
      have bmb : 0 ≤ mb ∧ mb ≤ 2147483647 := by rw [← hmb]; split <;> omega
      have hV0 : ∀ h : repOne R e fv (cAbs c) = none, Hid (cs'.map cAbs ++ repGo R e fv ((ss.drop (kk + 1)).map cAbs) = RES ∧ (∀ c ∈ cs', CuOk c) ∧ cs'.length ≤ kk + 1 ∧ ∀ c ∈ cs', ∀ k, c.lv.ownBlock = some k → w4.heap.size ≤ k) := fun h => by
        rw [repGo_none h] at hst
        exact ⟨hst.1, hst.2.1, by omega, hst.2.2.2⟩
      by_cases d1 : c.t ≤ ma
      · have g1 : decide (c.t ≤ ma) = true := decide_eq_true d1
        have hV := hV0 (by unfold repOne; rw [dma, if_pos (by exact d1)])
        clear hst hno hV0
        go_wp2
        refine ⟨⟨kk + 1, fv, cs', by go_num, rfl, by omega, hf0, hf1, hgw.alloc _, hO.out.gr ((Gr.refl wr).alloc _), hV⟩, by simp [RowKit.intOf]; omega⟩
      · have g1 : decide (c.t ≤ ma) = false := decide_eq_false d1
        have dm := Lib.hid (And.intro dma dmb)
        clear dma dmb
        by_cases d2 : mb - ma < rs
        · have g2 : decide (mb - ma < rs) = true := decide_eq_true d2
          have hV := hV0 (by unfold repOne; rw [dm.out.1, dm.out.2, if_neg (by exact d1), if_pos (by rw [hR.out]; exact d2)])
          clear hst hno hV0
          go_wp2
          refine ⟨⟨kk + 1, fv, cs', by go_num, rfl, by omega, hf0, hf1, hgw.alloc _, hO.out.gr ((Gr.refl wr).alloc _), hV⟩, by simp [RowKit.intOf]; omega⟩
        · have g2 : decide (mb - ma < rs) = false := decide_eq_false d2
          obtain ⟨LL, hLL⟩ : ∃ LL, linesW rk c.ss = LL := ⟨_, rfl⟩
          have hlv := linesW_valid hrb.2.2.2.2.2.1 hrb.2.2.2.2.2.2 (ss := c.ss) (fun x hx => List.all_eq_true.1 hvc.2.2.2.2.2 x hx)
          have HWA : Hid (∀ w', Gr wr w' → Calls Tryd.prog 66 #[.slice p2 c.ss.length cap2, .int .i64 rk] w' fun e w'' => ∃ v', e = .returned v' ∧ Gr w' w'' ∧ StrsR w'' v' LL ∧ (∀ base e', 9 ≠ e' → Far base e' w'' v') ∧ ∀ j, v'.ownBlock = some j → w'.heap.size ≤ j) := fun w' hg => by
            rw [← hLL]
            exact wrapAll_any _ c.ss rk w' (hsa.gr hg) ⟨by omega, by omega⟩ (fun x hx => (vLine_out (List.all_eq_true.1 hvc.2.2.2.2.2 x hx)).2.1) (by omega)
          rw [hLL] at hlv
          have hL4 := hlv.1
          have hlv := Lib.hid hlv
          by_cases d3 : LL = []
          · subst d3
            have hV := hV0 (by unfold repOne; rw [dm.out.1, dm.out.2, if_neg (by exact d1), if_neg (by rw [hR.out]; exact d2), if_pos (by rw [hR.out]; exact hLL)])
            clear hst hno hV0 hLL
            go_wp2_with (go_at_call 66; (with_reducible refine (HWA.out _ ?_).mono ?_); (· exact (Gr.refl wr).alloc _); rintro en w5 ⟨lv, rfl, hg5, hs5, hf5, hk5⟩; obtain ⟨p5, cap5, rfl, hh5⟩ := hs5.shape; clear hh5)
            refine ⟨?_, ?_⟩
            · exact ⟨kk + 1, fv, cs', by go_num, rfl, by omega, hf0, hf1, (hgw.alloc _).trans hg5, (hO.out.gr ((Gr.refl wr).alloc _)).gr hg5, hV⟩
            · simp [RowKit.intOf]; omega
          · have hone1 : repOne R e fv (cAbs c) = some (ma, mb, LL) := by
              unfold repOne
              rw [dm.out.1, dm.out.2, if_neg (by exact d1), if_neg (by rw [hR.out]; exact d2), if_neg (by rw [hR.out]; show ¬ linesW rk c.ss = []; rw [hLL]; exact d3), hR.out]
              show some (ma, mb, linesW rk c.ss) = _
              rw [hLL]
            rw [repGo_some hone1] at hst
            have hg0 : Hid (R.g = rg) := by rw [hR.out]; exact Lib.hid rfl
            have hV : Hid (∀ lv, (cs' ++ [Cu.mk ma mb lv LL]).map cAbs ++ repGo R e (mb + rg) ((ss.drop (kk + 1)).map cAbs) = RES ∧ (∀ d ∈ cs' ++ [Cu.mk ma mb lv LL], CuOk d) ∧ (cs' ++ [Cu.mk ma mb lv LL]).length ≤ kk + 1 ∧ ((∀ k, lv.ownBlock = some k → w4.heap.size ≤ k) → ∀ d ∈ cs' ++ [Cu.mk ma mb lv LL], ∀ k, d.lv.ownBlock = some k → w4.heap.size ≤ k)) := by
              intro lv
              refine ⟨?_, fun d hd => ?_, ?_, fun hk d hd => ?_⟩
              · rw [← hst.1, List.map_append, List.append_assoc, hg0.out]
                rfl
              · rcases List.mem_append.1 hd with h | h
                · exact hst.2.1 d h
                · rw [List.mem_singleton.1 h]
                  exact ⟨by simp only; omega, by simp only; omega, by simp only; omega, by simp only; omega, by simp only; omega, fun x hx => by have := (vLine_out (hlv.out.2 x hx).1).2.1; omega⟩
              · rw [List.length_append]
                have := hst.2.2.1
                show _ + 1 ≤ _
                omega
              · rcases List.mem_append.1 hd with h | h
                · exact hst.2.2.2 d h
                · rw [List.mem_singleton.1 h]; exact hk
            have hln := hst.2.2.1
            have gL : ((LL.length : Int) == 0) = false := by
              have : LL.length ≠ 0 := fun h => d3 (List.eq_nil_of_length_eq_zero h)
              simp; omega
            have gL2 : ¬ LL.length = 0 := fun h => d3 (List.eq_nil_of_length_eq_zero h)
            clear hst hno hV0 hLL hone1
            have hge := own_ge hO.out.own
            go_wp2_with (first
              | (go_at_call 66; (with_reducible refine (HWA.out _ ?_).mono ?_); (· exact (Gr.refl wr).alloc _); rintro en w5 ⟨lv, rfl, hg5, hs5, hf5, hk5⟩; obtain ⟨p5, cap5, rfl, hh5⟩ := hs5.shape; clear hh5; have hk5r := ((k04.out.gr hgw).alloc _).gr hg5; obtain ⟨y0, y1, y2, y3⟩ := hk5r.four; have hx5 := hg5.size)
              | (at_builtin; go_loud (refine wpList_append_rd rfl (.tmp 78) (.tmp 83) 22 rfl w4.heap.size 66 ic (.agg #[.int .i64 0, .int .i64 0, .slice none 0 0]) 3 40 (by kernel_rfl) hic hic0 hic1 hic2 rfl (by decide) _ _ _ rfl (((hO.out.gr ((Gr.refl wr).alloc _)).gr hg5).own.alloc _) _ 1 [.int .i64 ma, .int .i64 mb, .slice p5 LL.length cap5] rfl (Rd.new w5 #[.int .i64 ma, .int .i64 mb, .slice p5 LL.length cap5] 66 1 3 1 rfl) ?_ ?_ ?_ ?_ ?_); (· intro u hu; simp at hu; rcases hu with rfl | rfl | rfl <;> rfl); (· unfold maxLen; omega); (· omega); (· simp at hx5; simp; omega); intro v6 w6 hown6 hgrow6; have hk6 := (hk5r.alloc (.cells #[.int .i64 ma, .int .i64 mb, .slice p5 LL.length cap5] 66)).grown hgrow6 (fun h => by have := hge _ h; omega); have hx6 := hk6.lt; obtain ⟨z0, z1, z2, z3⟩ := hk6.four))
            have hgA : Gr wr (w5.alloc (.cells #[.int .i64 ma, .int .i64 mb, .slice p5 LL.length cap5] 66)) := (((Gr.refl wr).alloc _).trans hg5).alloc _
            have hO6 := (hO.out.gr hgA).app ⟨ma, mb, .slice p5 LL.length cap5, LL⟩ (Rd.gr ((Gr.refl w5).alloc _) hs5) (Far.gr ((Gr.refl w5).alloc _) (hf5 _ _ (by decide))) hown6 hgrow6
            have hg6 : Gr w4 w6 := (hgw.trans hgA).grown hgrow6 hge
            clear hown6 hgrow6
            refine ⟨?_, ?_⟩
            · exact ⟨kk + 1, mb + rg, _, by go_num, rfl, by omega, by omega, by omega, hg6, hO6, Lib.hid ⟨(hV.out _).1, (hV.out _).2.1, (hV.out _).2.2.1, (hV.out _).2.2.2 (fun k hk => by have := hk5 k hk; simp at this; omega)⟩⟩
            · simp [RowKit.intOf]; omega
    · have q6 : decide (kk < cs.length) = false := decide_eq_false c1
      obtain ⟨m1, m2, m3, m4⟩ := hno.out
      rw [List.drop_of_length_le (by omega), List.map_nil, repGo, List.append_nil] at m1
      have hno := Lib.hid m1
      have m2 := Lib.hid m2
      have hge := own_ge hO.own
      obtain ⟨f1, f3⟩ := (k14.out.gr hgw).one
      obtain ⟨f2, f4⟩ := (k24.out.gr hgw).one
      have hxw := (k24.out.gr hgw).lt
      have hlb : ∀ c ∈ cs', ∀ k, c.lv.ownBlock = some k → k ≠ w.heap.size + 1 ∧ k ≠ w.heap.size + 2 := fun c hc k hk => by have := m4 c hc k hk; omega
      have hlb := Lib.hid hlb
      obtain ⟨po, co, rfl⟩ := own_shape hO.own
      clear m1 hmem hRd4
      go_wp2
      refine leaves_cons (f := 59) (args := #[.pointer (some ⟨w.heap.size + 1, 0, none⟩), .pointer (some ⟨w.heap.size + 1 + 1, 0, none⟩)]) (by simp) (by simp [go_sem]) ?_
      refine (repairD_idle _ _ _).mono ?_
      rintro e u' w'' ⟨rfl, rfl, rfl⟩
      have hrd : CuesR ((wr.setCell ⟨w.heap.size + 1, 0, none⟩ (.slice po cs'.length co)).setCell ⟨w.heap.size + 1 + 1, 0, none⟩ (.int .i64 0)) (.slice po cs'.length co) cs' := by
        have hb1 : (Value.slice po cs'.length co).ownBlock ≠ some (w.heap.size + 1) := fun h => by have := hge _ h; omega
        have hb2 : (Value.slice po cs'.length co).ownBlock ≠ some (w.heap.size + 1 + 1) := fun h => by have := hge _ h; omega
        exact (hO.read.setCell ⟨w.heap.size + 1, 0, none⟩ _ hb1 (fun c hc h => (hlb.out c hc _ h).1 rfl)).setCell ⟨w.heap.size + 1 + 1, 0, none⟩ _ hb2 (fun c hc h => (hlb.out c hc _ h).2 rfl)
      simp [Leaves, settle, results, Tryd.results33, go_sem, f1, f2]
      exact ⟨(by repeat (first | with_reducible exact Gr.refl _ | with_reducible assumption | refine Gr.setCell ?_ (by first | omega | (simp; done) | (simp; omega)) _ | refine Gr.alloc ?_ _ | refine Gr.drew ?_ | refine Gr.drewN ?_ _ | refine Gr.trans ?_ (by with_reducible assumption))), cs', ⟨hrd, m2.out, by omega⟩, ts, hfin.out.1, by rw [← List.map_map, hfin.out.2]; exact hno.out⟩
end Go.Proofs.YtckmebfgianeoaaDoor
