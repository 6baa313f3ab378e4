/-
  Contract of Of of package edl where the arguments are no good.
  Conditions: the track lies in memory.
-/
import Derived.Test.YtgbiodnfpbhjiaaGreatDoorWalkOfK
import Derived.Test.YtgbiodnfpbhjiaaGreatDoorWalkTm
import Derived.Test.YtgbiodnfpbhjiaaGreatDoorWalkEg
import Derived.Deep.DeepCutAuto
namespace Go.Proofs.YtgbiodnfpbhjiaaGreatDoor
open Go.RowKit Go.Lib
set_option linter.unusedSimpArgs false
set_option linter.unusedVariables false

/-- the two result boxes hold the empty list and a number: what the call hands back -/
def ofZ (w : World) : World := (w.alloc (.cells #[.string ⟨#[]⟩, .int .i64 0, .bool false, .slice none 0 0] 24)).alloc (.cells #[.int .i64 0] 36)
theorem ofZ_fin {w w1 : World} (hg1 : Gr (ofZ w) w1) : Gr w w1 ∧ Blk w1 w.heap.size 24 [.string ⟨#[]⟩, .int .i64 0, .bool false, .slice none 0 0] ∧ Blk w1 (w.heap.size + 1) 36 [.int .i64 0] := by
  unfold ofZ at hg1
  have k0 := (Blk.new w [.string ⟨#[]⟩, .int .i64 0, .bool false, .slice none 0 0] 24).gr ((Gr.refl _).alloc (.cells #[.int .i64 0] 36)) |>.gr hg1
  have k1 := (Blk.new (w.alloc (.cells #[.string ⟨#[]⟩, .int .i64 0, .bool false, .slice none 0 0] 24)) [.int .i64 0] 36).gr hg1
  simp at k1
  exact ⟨(((Gr.refl w).alloc _).alloc _).trans hg1, k0, k1⟩
set_option maxRecDepth 20000 in
set_option maxHeartbeats 4000000 in
theorem eof_no (cs : List CM) (v : Value) (title : ByteArray) (base : Int) (drop : Bool) (w : World) (h : TrR w v cs) (hok : ∀ c ∈ cs, ClOk c.c) (ht : title.size ≤ 140737488355328)
    (hno : ¬ (C19.okB base drop = true ∧ vtB (cs.map CM.c) = true ∧ vLine title = true)) :
    Calls Tryz.prog 20 #[v, .string title, .int .i64 base, .bool drop] w fun e w' => e = .returned (.tuple #[.agg #[.string ⟨#[]⟩, .int .i64 0, .bool false, .slice none 0 0], .int .i64 1]) ∧ Gr w w' := by
  have hmf := hmf_any Tryz.prog
  have HV : Hid (∀ w', Gr w w' → Calls Tryz.prog 50 #[v] w' fun e w'' => e = .returned (.bool (vtB (cs.map CM.c))) ∧ Gr w' w'') := Lib.hid fun w' hg => vtrack_any cs v w' (h.gr hg) hok
  have HT : Hid (∀ w', Calls Tryz.prog 36 #[.string title] w' fun e w'' => e = .returned (.bool (vLine title)) ∧ Gr w' w'') := Lib.hid fun w' => title_any title w' ht
  have HD : Hid (∃ d en : Int, (C19.okB base drop = true → en = 0) ∧ (C19.okB base drop = false → en = 1) ∧ ∀ w', Calls Tryz.prog 35 #[.int .i64 base, .bool drop] w' fun e w'' => e = .returned (.tuple #[.int .i64 d, .int .i64 en]) ∧ w' = w'') := Lib.hid (by
    cases ho : C19.okB base drop with
    | false => exact ⟨0, 1, fun e => (by cases e), fun _ => rfl, fun w' => C19.day_no base drop w' ho⟩
    | true => exact ⟨C19.dayN base drop, 0, fun _ => rfl, fun e => (by cases e), fun w' => C19.day_yes base drop w' ho⟩)
  obtain ⟨d, en, hen0, hen1, HD⟩ := HD.out
  replace HD := Lib.hid HD
  generalize vtB (cs.map CM.c) = bt at *
  generalize vLine title = bl at *
  have fin := Lib.hid fun w1 (hg1 : Gr (ofZ w) w1) => ofZ_fin hg1
  unfold ofZ at fin
  have hway : bt = false ∨ (bt = true ∧ en = 1) ∨ (bt = true ∧ en = 0 ∧ bl = false) := by
    cases bt with
    | false => exact .inl rfl
    | true =>
      cases ho : C19.okB base drop with
      | false => exact .inr (.inl ⟨rfl, hen1 ho⟩)
      | true =>
        cases bl with
        | false => exact .inr (.inr ⟨rfl, hen0 ho, rfl⟩)
        | true => exact absurd ⟨ho, rfl, rfl⟩ hno
  clear hno hen0 hen1 h hok ht
  obtain ⟨pv, hpv⟩ : ∃ x, x = v := ⟨_, rfl⟩
  rcases hway with rfl | ⟨rfl, rfl⟩ | ⟨rfl, rfl, rfl⟩
  · go_enter_defers Tryz.func20, Tryz.ntmps20
    go_upto_region 4 with (first
      | (go_at_call 35; (with_reducible refine (HD.out _).mono ?_); rintro e w0 ⟨rfl, rfl⟩)
      | (go_at_call 50; (with_reducible refine (HV.out _ ?_).mono ?_); (· exact (by repeat (first | with_reducible exact Gr.refl _ | with_reducible assumption | refine Gr.setCell ?_ (by first | omega | (simp; done) | (simp; omega)) _ | refine Gr.alloc ?_ _ | refine Gr.drew ?_ | refine Gr.drewN ?_ _ | refine Gr.trans ?_ (by with_reducible assumption)))); rintro e w1 ⟨rfl, hg1⟩)
      | (go_at_call 36; (with_reducible refine (HT.out _).mono ?_); rintro e w2 ⟨rfl, hg2⟩))
    obtain ⟨hgw, k0, k1⟩ := fin.out _ (hg1)
    have f0 := k0.lt
    obtain ⟨c1, f1⟩ := k0.cel.2 0 _ rfl
    obtain ⟨c2, f2⟩ := k0.cel.2 1 _ rfl
    obtain ⟨c3, f3⟩ := k0.cel.2 2 _ rfl
    obtain ⟨c4, f4⟩ := k0.cel.2 3 _ rfl
    obtain ⟨c5, f5⟩ := k1.cel.one
    have f6 := k1.lt
    go_wp2
    refine leaves_cons (f := 49) (args := #[.pointer (some ⟨w.heap.size, 0, none⟩), .pointer (some ⟨w.heap.size + 1, 0, none⟩)]) (by simp) (by simp [go_sem]) ?_
    refine (ofD_idle _ _ _).mono ?_
    rintro e u' w'' ⟨rfl, rfl, rfl⟩
    simp [Leaves, settle, results, Tryz.results20, go_sem, c1, c2, c3, c4, c5]
    repeat (first | (with_reducible exact hgw) | (with_reducible refine Gr.setCell ?_ (by simp) _))
  · go_enter_defers Tryz.func20, Tryz.ntmps20
    go_upto_region 4 with (first
      | (go_at_call 35; (with_reducible refine (HD.out _).mono ?_); rintro e w0 ⟨rfl, rfl⟩)
      | (go_at_call 50; (with_reducible refine (HV.out _ ?_).mono ?_); (· exact (by repeat (first | with_reducible exact Gr.refl _ | with_reducible assumption | refine Gr.setCell ?_ (by first | omega | (simp; done) | (simp; omega)) _ | refine Gr.alloc ?_ _ | refine Gr.drew ?_ | refine Gr.drewN ?_ _ | refine Gr.trans ?_ (by with_reducible assumption)))); rintro e w1 ⟨rfl, hg1⟩)
      | (go_at_call 36; (with_reducible refine (HT.out _).mono ?_); rintro e w2 ⟨rfl, hg2⟩))
    obtain ⟨hgw, k0, k1⟩ := fin.out _ (hg1)
    have f0 := k0.lt
    obtain ⟨c1, f1⟩ := k0.cel.2 0 _ rfl
    obtain ⟨c2, f2⟩ := k0.cel.2 1 _ rfl
    obtain ⟨c3, f3⟩ := k0.cel.2 2 _ rfl
    obtain ⟨c4, f4⟩ := k0.cel.2 3 _ rfl
    obtain ⟨c5, f5⟩ := k1.cel.one
    have f6 := k1.lt
    go_wp2
    refine leaves_cons (f := 49) (args := #[.pointer (some ⟨w.heap.size, 0, none⟩), .pointer (some ⟨w.heap.size + 1, 0, none⟩)]) (by simp) (by simp [go_sem]) ?_
    refine (ofD_idle _ _ _).mono ?_
    rintro e u' w'' ⟨rfl, rfl, rfl⟩
    simp [Leaves, settle, results, Tryz.results20, go_sem, c1, c2, c3, c4, c5]
    repeat (first | (with_reducible exact hgw) | (with_reducible refine Gr.setCell ?_ (by simp) _))
  · go_enter_defers Tryz.func20, Tryz.ntmps20
    go_upto_region 4 with (first
      | (go_at_call 35; (with_reducible refine (HD.out _).mono ?_); rintro e w0 ⟨rfl, rfl⟩)
      | (go_at_call 50; (with_reducible refine (HV.out _ ?_).mono ?_); (· exact (by repeat (first | with_reducible exact Gr.refl _ | with_reducible assumption | refine Gr.setCell ?_ (by first | omega | (simp; done) | (simp; omega)) _ | refine Gr.alloc ?_ _ | refine Gr.drew ?_ | refine Gr.drewN ?_ _ | refine Gr.trans ?_ (by with_reducible assumption)))); rintro e w1 ⟨rfl, hg1⟩)
      | (go_at_call 36; (with_reducible refine (HT.out _).mono ?_); rintro e w2 ⟨rfl, hg2⟩))
    obtain ⟨hgw, k0, k1⟩ := fin.out _ (hg1.trans hg2)
    have f0 := k0.lt
    obtain ⟨c1, f1⟩ := k0.cel.2 0 _ rfl
    obtain ⟨c2, f2⟩ := k0.cel.2 1 _ rfl
    obtain ⟨c3, f3⟩ := k0.cel.2 2 _ rfl
    obtain ⟨c4, f4⟩ := k0.cel.2 3 _ rfl
    obtain ⟨c5, f5⟩ := k1.cel.one
    have f6 := k1.lt
    go_wp2
    refine leaves_cons (f := 49) (args := #[.pointer (some ⟨w.heap.size, 0, none⟩), .pointer (some ⟨w.heap.size + 1, 0, none⟩)]) (by simp) (by simp [go_sem]) ?_
    refine (ofD_idle _ _ _).mono ?_
    rintro e u' w'' ⟨rfl, rfl, rfl⟩
    simp [Leaves, settle, results, Tryz.results20, go_sem, c1, c2, c3, c4, c5]
    repeat (first | (with_reducible exact hgw) | (with_reducible refine Gr.setCell ?_ (by simp) _))
end Go.Proofs.YtgbiodnfpbhjiaaGreatDoor
