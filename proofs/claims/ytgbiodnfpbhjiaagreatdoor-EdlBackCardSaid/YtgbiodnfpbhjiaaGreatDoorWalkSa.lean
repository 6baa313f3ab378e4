/-
  Contracts of EqualFunc of package slices, for clips, and of Same of package timeline, where the tracks are the same.
  Conditions: the tracks lie in memory.
-/
import Derived.Test.YtgbiodnfpbhjiaaGreatDoorWalkTm
import Derived.Test.YtgbiodnfpbhjiaaGreatDoorWalkTl
namespace Go.Proofs.YtgbiodnfpbhjiaaGreatDoor
open Go.RowKit Go.Lib
set_option linter.unusedSimpArgs false
set_option linter.unusedVariables false

set_option maxRecDepth 20000 in
set_option maxHeartbeats 4000000 in
theorem eqf_true (k : Nat) (hk22 : 22 = k) (cs ds : List CM) (a1 a2 : Option Addr) (cap1 cap2 : Nat) (w : World) (h1 : TrR w (.slice a1 cs.length cap1) cs) (h2 : TrR w (.slice a2 ds.length cap2) ds) (he : cs.map CM.c = ds.map CM.c) (hn : cs.length ≤ 1000000) (hl : ∀ c ∈ cs, c.c.ch.length * 8 ≤ 140737488355328) :
    Calls Tryz.prog 62 #[.slice a1 cs.length cap1, .slice a2 ds.length cap2, .func (.func 63) #[] #[]] w fun e w' => e = .returned (.bool true) ∧ Gr w w' := by
  have aE : ∀ w, (isAgg 81).run Tryz.prog w = .ok true w := Tryz.isAgg81
  have zE : ∀ w, (Go.sizeOf 81).run Tryz.prog w = .ok k w := fun w => by rw [← hk22]; exact Tryz.sizeOf81 w
  replace hk22 := Lib.hid hk22
  have hlen : cs.length = ds.length := by have := congrArg List.length he; simpa using this
  have H1 := Lib.hid h1
  have H2 := Lib.hid h2
  replace hl := Lib.hid hl
  replace he := Lib.hid he
  clear h1 h2
  obtain ⟨L, hL⟩ : ∃ L, cs.length = L := ⟨_, rfl⟩
  have hL2 : ds.length = L := by omega
  rw [hL] at hn
  rw [hL, hL2]
  replace hL := Lib.hid hL
  replace hL2 := Lib.hid hL2
  clear hlen
  go_enter Tryz.func62, Tryz.ntmps62
  go_wp2
  go_loopw [17] (fun i wr => ∃ j : Nat, j ≤ L ∧ i = .int .i64 j ∧ Gr w wr) (fun i _ => L - (RowKit.intOf i).toNat)
  case atStart => exact ⟨0, Nat.zero_le _, rfl, Gr.refl _⟩
  case round =>
    obtain ⟨j, hj, rfl, hg⟩ := hrel
    by_cases c1 : j < L
    · have q1 : decide ((j : Int) < (L : Int)) = true := decide_eq_true (by omega)
      have i1 : (0 : Int) ≤ (j : Int) ∧ (j : Int) < (L : Int) := by omega
      have c2 : j < cs.length := by rw [hL.out]; exact c1
      have c3 : j < ds.length := by rw [hL2.out]; exact c1
      have hr1 := H1.out.gr hg
      have hr2 := H2.out.gr hg
      obtain ⟨b1', cap1', e1, hx1⟩ := hr1.shape
      obtain ⟨b2', cap2', e2, hx2⟩ := hr2.shape
      injection e1 with e1 f1 g1
      injection e2 with e2 f2 g2
      subst e1 e2 g1 g2
      clear f1 f2
      rcases hx1 with h0 | ⟨b1, o1, rfl, hb1, hx1⟩
      · omega
      rcases hx2 with h0 | ⟨b2, o2, rfl, hb2, hx2⟩
      · omega
      have hz1 := hx1 j c2
      have hz2 := hx2 j c3
      have hch1 := hr1.ch _ (List.getElem_mem c2)
      have hch2 := hr2.ch _ (List.getElem_mem c3)
      have hee : cs[j].c = ds[j].c := by
        have h3 : (cs.map CM.c)[j]? = (ds.map CM.c)[j]? := by rw [he.out]
        simpa [c2, c3] using h3
      have HE : Hid (∀ w', Gr wr w' → Calls Tryz.prog 63 #[cs[j].val, ds[j].val] w' fun e w'' => e = .returned (.bool true) ∧ Gr w' w'') := Lib.hid fun w' hg' => by
        have := equal_core 7 rfl cs[j] ds[j] w' (hch1.gr hg') (hch2.gr hg') (hl.out _ (List.getElem_mem c2))
        rwa [decide_eq_true hee] at this
      have hone1 := hch1.one
      have hone2 := hch2.one
      obtain ⟨l1, hl1⟩ : ∃ l1, cs[j].cells = l1 := ⟨_, rfl⟩
      obtain ⟨l2, hl2⟩ : ∃ l2, ds[j].cells = l2 := ⟨_, rfl⟩
      have hk1 : l1.length = k := by rw [← hl1, ← hk22.out]; rfl
      have hk2 : l2.length = k := by rw [← hl2, ← hk22.out]; rfl
      unfold CM.val at HE
      rw [hl1] at HE hz1 hone1
      rw [hl2] at HE hz2 hone2
      have la1 : Sem.run Tryz.prog (loadCellsFrom ⟨b1, o1 + j * k, none⟩ 0 k #[]) wr = .ok l1.toArray wr := by
        rw [show j * k = j * 22 by rw [← hk22.out]]
        exact ld_row hk1 fun y u hu => hz1 y u hu
      have st1 : Sem.run Tryz.prog (storeCells ⟨wr.heap.size, 0, none⟩ l1 0) (wr.alloc (.cells #[.int .i64 0, .int .i64 0, .int .i64 0, .string ⟨#[]⟩, .int .i64 0, .int .i64 0, .int .i64 0, .int .i64 0, .bool false, .int .i64 0, .string ⟨#[]⟩, .int .i64 0, .int .i64 0, .int .i64 0, .int .i64 0, .bool false, .int .i64 0, .int .i64 0, .int .i64 0, .string ⟨#[]⟩, .int .i64 0, .slice none 0 0] 81)) = .ok () (wr.alloc (.cells l1.toArray 81)) := st_new wr _ _ l1 (by rw [hk1, ← hk22.out]; exact infoClip) (by rw [hk1, ← hk22.out]; rfl) hone1
      have hbx := Blk.new wr l1 81
      have hgA : Gr wr (wr.alloc (.cells l1.toArray 81)) := (Gr.refl wr).alloc _
      clear hl1 hl2 hx1 hx2 hee hch1 hch2 hr1 hr2
      go_upto_region 6 with fail
      generalize wr.alloc (.cells l1.toArray 81) = W1 at *
      obtain ⟨X, hX⟩ : ∃ X, wr.heap.size = X := ⟨_, rfl⟩
      rw [hX] at hbx ⊢
      clear la1 st1 hX
      have la2 : Sem.run Tryz.prog (loadCellsFrom ⟨b2, o2 + j * k, none⟩ 0 k #[]) W1 = .ok l2.toArray W1 := by
        rw [show j * k = j * 22 by rw [← hk22.out]]
        exact ld_row hk2 fun y u hu => (hgA.cells.1 b2 _ hb2).trans (hz2 y u hu)
      have st2 : Sem.run Tryz.prog (storeCells ⟨W1.heap.size, 0, none⟩ l2 0) (W1.alloc (.cells #[.int .i64 0, .int .i64 0, .int .i64 0, .string ⟨#[]⟩, .int .i64 0, .int .i64 0, .int .i64 0, .int .i64 0, .bool false, .int .i64 0, .string ⟨#[]⟩, .int .i64 0, .int .i64 0, .int .i64 0, .int .i64 0, .bool false, .int .i64 0, .int .i64 0, .int .i64 0, .string ⟨#[]⟩, .int .i64 0, .slice none 0 0] 81)) = .ok () (W1.alloc (.cells l2.toArray 81)) := st_new W1 _ _ l2 (by rw [hk2, ← hk22.out]; exact infoClip) (by rw [hk2, ← hk22.out]; rfl) hone2
      have hby := Blk.new W1 l2 81
      have hgB : Gr W1 (W1.alloc (.cells l2.toArray 81)) := (Gr.refl W1).alloc _
      go_upto_region 7 with fail
      generalize W1.alloc (.cells l2.toArray 81) = W2 at *
      obtain ⟨Y, hY⟩ : ∃ Y, W1.heap.size = Y := ⟨_, rfl⟩
      rw [hY] at hby ⊢
      have hbx2 := hbx.gr hgB
      have hgAB := hgA.trans hgB
      have lb1 := ld_cel (P := Tryz.prog) hk1 hbx2.cel
      have lb2 := ld_cel (P := Tryz.prog) hk2 hby.cel
      clear la2 st2 hY hbx hgB hbx2 hby
      go_wp2_with (go_at_call 63; (with_reducible refine (HE.out _ hgAB).mono ?_); rintro e w3 ⟨rfl, hg3⟩)
      go_roundw
      case rel => exact ⟨j + 1, by omega, by go_num, (hg.trans hgAB).trans hg3⟩
      case measure => simp [RowKit.intOf]; omega
    · have q1 : decide ((j : Int) < (L : Int)) = false := decide_eq_false (by omega)
      go_wp2
      go_ret
      exact ⟨rfl, hg⟩
set_option maxHeartbeats 4000000 in
theorem tsame_true (cs ds : List CM) (v1 v2 : Value) (w : World) (h1 : TrR w v1 cs) (h2 : TrR w v2 ds) (hk1 : ∀ c ∈ cs, ClOk c.c) (hk2 : ∀ c ∈ ds, ClOk c.c) (hv1 : vtB (cs.map CM.c) = true) (hv2 : vtB (ds.map CM.c) = true) (hn : nmC (cs.map CM.c) = nmC (ds.map CM.c)) (hln : (nmC (cs.map CM.c)).length ≤ 64) (hch : ∀ c ∈ nmC (cs.map CM.c), c.ch.length ≤ 4) :
    Calls Tryz.prog 24 #[v1, v2] w fun e w' => e = .returned (.bool true) ∧ Gr w w' := by
  have HV1 : Hid (∀ w', Gr w w' → Calls Tryz.prog 50 #[v1] w' fun e w'' => e = .returned (.bool true) ∧ Gr w' w'') := Lib.hid fun w' hg => by rw [← hv1]; exact vtrack_any cs v1 w' (h1.gr hg) hk1
  have HV2 : Hid (∀ w', Gr w w' → Calls Tryz.prog 50 #[v2] w' fun e w'' => e = .returned (.bool true) ∧ Gr w' w'') := Lib.hid fun w' hg => by rw [← hv2]; exact vtrack_any ds v2 w' (h2.gr hg) hk2
  have HN1 : Hid (∀ w', Gr w w' → Calls Tryz.prog 44 #[v1] w' fun e w'' => ∃ v' ts, e = .returned v' ∧ Gr w' w'' ∧ TrR w'' v' ts ∧ ts.map CM.c = nmC (cs.map CM.c)) := Lib.hid fun w' hg => normal_any cs v1 w' (h1.gr hg) hk1
  have HN2 : Hid (∀ w', Gr w w' → Calls Tryz.prog 44 #[v2] w' fun e w'' => ∃ v' ts, e = .returned v' ∧ Gr w' w'' ∧ TrR w'' v' ts ∧ ts.map CM.c = nmC (cs.map CM.c)) := Lib.hid fun w' hg => by rw [hn]; exact normal_any ds v2 w' (h2.gr hg) hk2
  have HE : Hid (∀ (u1 u2 : Value) (ts1 ts2 : List CM) (w' : World), TrR w' u1 ts1 → TrR w' u2 ts2 → ts1.map CM.c = nmC (cs.map CM.c) → ts2.map CM.c = nmC (cs.map CM.c) → Calls Tryz.prog 62 #[u1, u2, .func (.func 63) #[] #[]] w' fun e w'' => e = .returned (.bool true) ∧ Gr w' w'') := Lib.hid fun u1 u2 ts1 ts2 w' g1 g2 e1 e2 => by
    obtain ⟨a1, c1, rfl, _⟩ := g1.shape
    obtain ⟨a2, c2, rfl, _⟩ := g2.shape
    refine eqf_true 22 rfl ts1 ts2 a1 a2 c1 c2 w' g1 g2 (e1.trans e2.symm) (by rw [← List.length_map (f := CM.c), e1]; omega) fun c hc => ?_
    have := hch c.c (by rw [← e1]; exact List.mem_map.2 ⟨c, hc, rfl⟩)
    omega
  generalize nmC (cs.map CM.c) = N at *
  clear hch hln hn hv1 hv2 h1 h2
  go_enter Tryz.func24, Tryz.ntmps24
  go_wp2_with (first
    | (go_at_call 50; (with_reducible refine (HV1.out _ ?_).mono ?_); (· exact (by repeat (first | with_reducible exact Gr.refl _ | with_reducible assumption | refine Gr.setCell ?_ (by first | omega | (simp; done) | (simp; omega)) _ | refine Gr.alloc ?_ _ | refine Gr.drew ?_ | refine Gr.drewN ?_ _ | refine Gr.trans ?_ (by with_reducible assumption)))); rintro e w1 ⟨rfl, hg1⟩)
    | (go_at_call 50; (with_reducible refine (HV2.out _ ?_).mono ?_); (· exact (by repeat (first | with_reducible exact Gr.refl _ | with_reducible assumption | refine Gr.setCell ?_ (by first | omega | (simp; done) | (simp; omega)) _ | refine Gr.alloc ?_ _ | refine Gr.drew ?_ | refine Gr.drewN ?_ _ | refine Gr.trans ?_ (by with_reducible assumption)))); rintro e w2 ⟨rfl, hg2⟩)
    | (go_at_call 44; (with_reducible refine (HN1.out _ (hg1.trans hg2)).mono ?_); rintro e w3 ⟨u1, ts1, rfl, hg3, hR1, he1⟩)
    | (go_at_call 44; (with_reducible refine (HN2.out _ ((hg1.trans hg2).trans hg3)).mono ?_); rintro e w4 ⟨u2, ts2, rfl, hg4, hR2, he2⟩)
    | (go_at_call 62; (with_reducible refine (HE.out _ _ ts1 ts2 _ (hR1.gr hg4) hR2 he1 he2).mono ?_); rintro e w5 ⟨rfl, hg5⟩))
  go_ret
  exact ⟨rfl, (((hg1.trans hg2).trans hg3).trans hg4).trans hg5⟩
end Go.Proofs.YtgbiodnfpbhjiaaGreatDoor
